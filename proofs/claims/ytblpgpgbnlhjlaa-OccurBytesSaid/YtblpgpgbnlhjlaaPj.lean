/- Layer 4 (bre): take. -/
import Derived.Test.YtblpgpgbnlhjlaaPi
namespace Go.Proofs.Ytblpgpgbnlhjlaa
open Go Go.RowKit Sl
set_option maxRecDepth 100000
set_option maxHeartbeats 8000000
set_option linter.unusedVariables false
set_option linter.unusedSimpArgs false
attribute [local irreducible] ES EL PX wps

theorem Takes.behind (A : HA) : ∀ (Hq R : List HA), Takes (A :: (Hq ++ R)) Hq (A :: R)
  | [], R => .nil _
  | X :: T, R => .cons (.there (.here _ _)) (Takes.behind A T R)
theorem Sat.dropMid {w0 w : World} {B : Nat} {L R : List HA} {A : HA} (h : Sat w0 B (L ++ A :: R) w) : Sat w0 B (L ++ R) w :=
  (h.perm List.perm_middle).tail
abbrev tkB (g3 : Nat) (k : Tok) : HA := HA.blk g3 (.cells (tokCells k) 148)
theorem take_c (g fg fcap : Nat) (p : PS) (tv : FV) (rv : List (Frame × FV)) (hrv : rv.map Prod.fst = p.rest) (N : Nat) (hN : N ≤ 60000) (hp : POk p N) (k : Tok) (hk : TokOk p k) :
    Mut Try.prog 58 #[Pv g 0, tokV k] (PH g fg fcap p tv rv) (fun _ : TXs (takeM p k).1 => Iv (takeM p k).2) (fun x => tkH g (takeM p k) x) := by
  intro w0 B R w h
  have hrl : rv.length = p.rest.length := by rw [← hrv, List.length_map]
  have hr9 : rv.length ≤ 9 := by have := hp.deep; have := hp.ok.groups; omega
  have hkn := hp.kids p.top (by simp)
  have hlen := hp.ok.len p.top (by simp)
  have hpl := fun (r : RE) (hr : r.kids = []) (z : Nat) => putLeaf_c g fg fcap p tv rv hr9 (by omega) (by omega) r hr z
  have hsz := hp.ok.le
  have hsh := hp.ok.shut
  have hgl := hp.ok.groups
  have hnum := hp.ok.num
  have htot := hp.ok.tot
  have hgrow := grow_c g fg (rv.length + 1) fcap p.groups p.size (p.size + 1) p.shut 1 hsh (by omega) (by omega)
  replace h : Sat w0 B (PB g fg (rv.length + 1) fcap (PR p.groups p.shut p.size) :: FB fg (rv.length + 1) fcap (preC rv ++ tv.cells p.top) :: KR tv.kad p.top.kids.length tv.kcap tv.kcs :: ZR tv.sad tv.scap p.top.sizes :: HA.forest tv.fp p.top.kids tv.kcs :: (restH rv ++ R)) w := h
  have htl0 : tv.kcs.length = p.top.kids.length * 9 := (row_form (h.all (KR tv.kad p.top.kids.length tv.kcap tv.kcs) (by simp))).2.2.2.1
  have hvl0 : ∀ f v r, rv = (f, v) :: r → v.kcs.length = f.kids.length * 9 := fun f v r e => by
    subst e
    exact (row_form (h.all (KR v.kad f.kids.length v.kcap v.kcs) (by simp [restH]))).2.2.2.1
  refine calls_of_ES TB Try.func58 rfl _ Try.ntmps58 rfl h ?_
  refine .go ?_; repeat constructor
  (refine EL.box rfl rfl rfl ?_; intro g3)
  refine EL.assign rfl rfl rfl ?_
  refine .go ?_; repeat constructor
  refine EL.fieldAddr rfl rfl rfl rfl rfl rfl rfl rfl ?_
  (apply EL.loadB; exact rfl; exact rfl; exact rfl; exact rfl; exact rfl; (case hm => repeat constructor); exact rfl)
  refine .go ?_; repeat constructor
  refine EL.eqlI rfl rfl rfl rfl ?_
  refine EL.assign rfl rfl rfl ?_
  refine .go ?_; repeat constructor
  refine ES.condD rfl (fun h0 => ?_) (fun h0 => ?_)
  · have hk0 : k.kind = 0 := by omega
    rw [takeM_0 hk0]
    refine .go ?_; repeat constructor
    refine EL.move rfl rfl rfl ?_
    refine EL.fieldAddr rfl rfl rfl rfl rfl rfl rfl rfl ?_
    refine EL.ofRV (RV.loadBA [Wv k.set.a, Wv k.set.b, Wv k.set.c, Wv k.set.d] rfl rfl rfl rfl (by repeat constructor) rfl) rfl rfl rfl (by intro c h; cases h) ?_
    refine EL.buildS (reCells (.byte k.set) (.slice none 0 0)).toArray rfl rfl rfl rfl rfl rfl rfl ?_
    (refine EL.callM rfl rfl rfl ent77 rfl (hpl (.byte k.set) rfl 1) (Takes.behind (tkB g3 k) (PH g fg fcap p tv rv) R) ?_; intro x; refine EL.imp (H' := PH g fg fcap { p with top := p.top.put (.byte k.set) 1 } ⟨x.1.1, x.1.2, x.2.1, x.2.2, tv.kcs ++ reCells (.byte k.set) (.slice none 0 0), tv.fp⟩ rv ++ R) (fun w hs => Sat.dropMid hs) ?_)
    refine .go ?_; repeat constructor
    refine EL.move rfl rfl rfl ?_
    refine EL.callM1 rfl rfl rfl ent78 rfl hgrow (.cons (.here _ _) (.nil _)) ?_
    refine EL.assign rfl rfl rfl ?_
    refine .go ?_; repeat constructor
    exact PX.ret rfl Try.results58 (.cons (.tmp rfl) .nil) (fun w hs => ⟨⟨⟨fg, fcap, ⟨x.1.1, x.1.2, x.2.1, x.2.2, tv.kcs ++ reCells (.byte k.set) (.slice none 0 0), tv.fp⟩, rv⟩, hrv⟩, rfl, tk_ok _ hs⟩)
  refine .go ?_; repeat constructor
  refine EL.eqlI rfl rfl rfl rfl ?_
  refine EL.assign rfl rfl rfl ?_
  refine .go ?_; repeat constructor
  refine ES.condD rfl (fun h1 => ?_) (fun h1 => ?_)
  · have hk0 : k.kind = 1 := by omega
    rw [takeM_1 hk0]
    refine .go ?_; repeat constructor
    refine EL.move rfl rfl rfl ?_
    refine EL.buildS (reCells .bol (.slice none 0 0)).toArray rfl rfl rfl rfl rfl rfl rfl ?_
    (refine EL.callM rfl rfl rfl ent77 rfl (hpl .bol rfl 0) (Takes.behind (tkB g3 k) (PH g fg fcap p tv rv) R) ?_; intro x)
    refine EL.assign rfl rfl rfl ?_
    refine .go ?_; repeat constructor
    exact PX.ret rfl Try.results58 (.cons (.tmp rfl) .nil) (fun w hs => ⟨⟨⟨fg, fcap, ⟨x.1.1, x.1.2, x.2.1, x.2.2, tv.kcs ++ reCells .bol (.slice none 0 0), tv.fp⟩, rv⟩, hrv⟩, rfl, tk_ok _ (Sat.dropMid hs)⟩)
  refine .go ?_; repeat constructor
  refine EL.eqlI rfl rfl rfl rfl ?_
  refine EL.assign rfl rfl rfl ?_
  refine .go ?_; repeat constructor
  refine ES.condD rfl (fun h2 => ?_) (fun h2 => ?_)
  · have hk0 : k.kind = 2 := by omega
    rw [takeM_2 hk0]
    refine .go ?_; repeat constructor
    refine EL.move rfl rfl rfl ?_
    refine EL.buildS (reCells .eol (.slice none 0 0)).toArray rfl rfl rfl rfl rfl rfl rfl ?_
    (refine EL.callM rfl rfl rfl ent77 rfl (hpl .eol rfl 0) (Takes.behind (tkB g3 k) (PH g fg fcap p tv rv) R) ?_; intro x)
    refine EL.assign rfl rfl rfl ?_
    refine .go ?_; repeat constructor
    exact PX.ret rfl Try.results58 (.cons (.tmp rfl) .nil) (fun w hs => ⟨⟨⟨fg, fcap, ⟨x.1.1, x.1.2, x.2.1, x.2.2, tv.kcs ++ reCells .eol (.slice none 0 0), tv.fp⟩, rv⟩, hrv⟩, rfl, tk_ok _ (Sat.dropMid hs)⟩)
  refine .go ?_; repeat constructor
  refine EL.eqlI rfl rfl rfl rfl ?_
  refine EL.assign rfl rfl rfl ?_
  refine .go ?_; repeat constructor
  refine ES.condD rfl (fun h3 => ?_) (fun h3 => ?_)
  · have hk0 : k.kind = 3 := by omega
    rw [takeM_3 hk0]
    by_cases hg9 : p.groups = 9
    · rw [if_pos hg9]
      have hop := open_full g fg (rv.length + 1) fcap (p.shut.map Value.bool ++ [Iv (p.size : Nat)]) k.at_
      rw [hg9]
      refine .go ?_; repeat constructor
      refine EL.move rfl rfl rfl ?_
      refine EL.fieldAddr rfl rfl rfl rfl rfl rfl rfl rfl ?_
      (apply EL.loadB; exact rfl; exact rfl; exact rfl; exact rfl; exact rfl; (case hm => repeat constructor); exact rfl)
      refine EL.callM1 rfl rfl rfl ent79 rfl hop (by repeat constructor) ?_
      refine EL.assign rfl rfl rfl ?_
      refine .go ?_; repeat constructor
      exact PX.ret rfl Try.results58 (.cons (.tmp rfl) .nil) (fun w hs => ⟨TXs.any _, rfl, tk_err _ (fun e => by cases e) (Sat.tailL (A := restH rv) (hs.ent (.i (by repeat constructor))))⟩)
    · rw [if_neg hg9]
      have hop := open_c g fg (rv.length + 1) fcap p.groups p.size k.at_ p.shut (preC rv ++ tv.cells p.top) (by omega) (by omega)
      refine .go ?_; repeat constructor
      refine EL.move rfl rfl rfl ?_
      refine EL.fieldAddr rfl rfl rfl rfl rfl rfl rfl rfl ?_
      (apply EL.loadB; exact rfl; exact rfl; exact rfl; exact rfl; exact rfl; (case hm => repeat constructor); exact rfl)
      (refine EL.callM rfl rfl rfl ent79 rfl hop (by repeat constructor) ?_; intro x)
      refine EL.assign rfl rfl rfl ?_
      refine .go ?_; repeat constructor
      refine PX.ret rfl Try.results58 (.cons (.tmp rfl) .nil) (fun w hs => ⟨⟨⟨x.1, x.2, ⟨none, 0, none, 0, [], []⟩, (p.top, tv) :: rv⟩, by rw [List.map_cons, hrv]⟩, rfl, tk_ok _ ?_⟩)
      have h1 := Sat.forest0 ((hs.nilRow 3 1).nilRow 82 9) [] [] (fun _ _ => .nil)
      exact h1.ent (H' := PB g x.1 (rv.length + 1 + 1) x.2 (PR (p.groups + 1) p.shut p.size) :: FB x.1 (rv.length + 1 + 1) x.2 (preC rv ++ tv.cells p.top ++ frC none 0 0 none 0 0 (p.groups + 1) k.at_) :: KR none 0 0 [] :: ZR none 0 [] :: HA.forest [] [] [] :: KR tv.kad p.top.kids.length tv.kcap tv.kcs :: ZR tv.sad tv.scap p.top.sizes :: HA.forest tv.fp p.top.kids tv.kcs :: (restH rv ++ R)) (.i (by repeat constructor))
  refine .go ?_; repeat constructor
  refine EL.eqlI rfl rfl rfl rfl ?_
  refine EL.assign rfl rfl rfl ?_
  refine .go ?_; repeat constructor
  refine ES.condD rfl (fun h4 => ?_) (fun h4 => ?_)
  · have hk0 : k.kind = 4 := by omega
    rw [takeM_4 hk0]
    cases rv with
    | nil =>
      rw [← hrv]
      have hcl := close_none g fg fcap (PR p.groups p.shut p.size)
      refine .go ?_; repeat constructor
      refine EL.move rfl rfl rfl ?_
      refine EL.callM1 rfl rfl rfl ent80 rfl hcl (by repeat constructor) ?_
      refine EL.assign rfl rfl rfl ?_
      refine .go ?_; repeat constructor
      exact PX.ret rfl Try.results58 (.cons (.tmp rfl) .nil) (fun w hs => ⟨TXs.any _, rfl, tk_err _ (fun e => by cases e) (hs.ent (.i (by repeat constructor)))⟩)
    | cons fv rv =>
      obtain ⟨f, v⟩ := fv
      have hrest : p.rest = f :: rv.map Prod.fst := by rw [← hrv]; rfl
      have hfl := hp.ok.len f (by rw [hrest]; simp)
      have hfk := hp.kids f (by rw [hrest]; simp)
      have hvl : v.kcs.length = f.kids.length * 9 := hvl0 f v rv rfl
      rw [hrest] at htot ⊢
      simp only [List.map_cons, List.sum_cons, Frame.tot] at htot
      simp only [List.length_cons] at hr9
      have htg := hnum p.top (by simp)
      have hcl := close_c g fg rv.length fcap p.groups p.size p.shut hsh (preC rv) (preC_len rv) (by omega) v.kad v.kcap v.sad v.scap f.group f.at_ f.kids v.kcs f.sizes v.fp (by omega) (by omega) hvl tv.kad tv.kcap tv.sad tv.scap p.top.group p.top.at_ p.top.kids tv.kcs p.top.sizes tv.fp htg (by omega) (by omega)
      refine .go ?_; repeat constructor
      refine EL.move rfl rfl rfl ?_
      (refine EL.callM rfl rfl rfl ent80 rfl hcl (by repeat constructor) ?_; intro x)
      refine EL.assign rfl rfl rfl ?_
      refine .go ?_; repeat constructor
      refine PX.ret rfl Try.results58 (.cons (.tmp rfl) .nil) (fun w hs => ⟨⟨⟨fg, fcap, ⟨x.1.1.1, x.1.1.2, x.1.2.1, x.1.2.2, v.kcs ++ grC p.top.group p.top.kids x.2, v.fp ++ ([x.2] ++ ((Value.slice tv.kad p.top.kids.length tv.kcap).ownBlock.toList ++ tv.fp))⟩, rv⟩, rfl⟩, rfl, tk_ok _ ?_⟩)
      have e1 : (f.put (.group p.top.group (.cat p.top.kids)) p.top.sizes.sum).kids.length = f.kids.length + 1 := by simp [Frame.put]
      have e2 : (f.put (.group p.top.group (.cat p.top.kids)) p.top.sizes.sum).sizes.length = f.sizes.length + 1 := by simp [Frame.put]
      show Sat w0 B (PB g fg (rv.length + 1) fcap (PR p.groups (p.shut.set p.top.group true) p.size) :: FB fg (rv.length + 1) fcap (preC rv ++ frC x.1.1.1 (f.put (.group p.top.group (.cat p.top.kids)) p.top.sizes.sum).kids.length x.1.1.2 x.1.2.1 (f.put (.group p.top.group (.cat p.top.kids)) p.top.sizes.sum).sizes.length x.1.2.2 f.group f.at_) :: KR x.1.1.1 (f.put (.group p.top.group (.cat p.top.kids)) p.top.sizes.sum).kids.length x.1.1.2 (v.kcs ++ grC p.top.group p.top.kids x.2) :: ZR x.1.2.1 x.1.2.2 (f.sizes ++ [p.top.sizes.sum]) :: HA.forest (v.fp ++ ([x.2] ++ ((Value.slice tv.kad p.top.kids.length tv.kcap).ownBlock.toList ++ tv.fp))) (f.kids ++ [.group p.top.group (.cat p.top.kids)]) (v.kcs ++ grC p.top.group p.top.kids x.2) :: (restH rv ++ R)) w
      rw [e1, e2]
      exact hs.ent (.i (by repeat constructor))
  refine .go ?_; repeat constructor
  refine EL.eqlI rfl rfl rfl rfl ?_
  refine EL.assign rfl rfl rfl ?_
  refine .go ?_; repeat constructor
  refine ES.condD rfl (fun h5 => ?_) (fun h5 => ?_)
  · have hk0 : k.kind = 5 := by omega
    obtain ⟨hne, hlo0, hlo1, hhi0, hhi1, _⟩ := hk.rep hk0
    rw [takeM_5 hk0]
    have hse : p.top.sizes ≠ [] := by
      intro e; rw [e] at hlen; exact hne (List.eq_nil_of_length_eq_zero hlen)
    have hki := dropLast_last p.top.kids .bol hne
    have hzi := dropLast_last p.top.sizes 0 hse
    generalize p.top.kids.dropLast = init at hki ⊢
    generalize p.top.kids.getLastD .bol = last at hki ⊢
    generalize p.top.sizes.dropLast = zs0 at hzi ⊢
    generalize p.top.sizes.getLastD 0 = z at hzi ⊢
    have hkl2 : p.top.kids.length = init.length + 1 := by rw [hki]; simp
    have hzl2 : p.top.sizes.length = zs0.length + 1 := by rw [hzi]; simp
    have hz2 : z ≤ p.size := by
      have : p.top.tot = zs0.sum + z := by unfold Frame.tot; rw [hzi]; simp
      omega
    have hlo : ((k.lo.toNat : Nat) : Int) = k.lo := by omega
    have hrc := rep_c g fg rv.length fcap p.groups p.size p.shut hsh (preC rv) (preC_len rv) (by omega) tv.kad tv.kcap tv.sad tv.scap p.top.group p.top.at_ init last tv.kcs zs0 z tv.fp k.lo.toNat k.hi (by omega) (by omega) (by omega) (by omega) (by omega) (by omega) hz2 hsz (by rw [htl0, hkl2])
    rw [hlo] at hrc
    dsimp only
    refine ES.imp (H' := PB g fg (rv.length + 1) fcap (PR p.groups p.shut p.size) :: FB fg (rv.length + 1) fcap (preC rv ++ frC tv.kad (init.length + 1) tv.kcap tv.sad (zs0.length + 1) tv.scap p.top.group p.top.at_) :: KR tv.kad (init.length + 1) tv.kcap tv.kcs :: HA.row (.slice tv.sad (zs0.length + 1) tv.scap) 3 1 (zs0.length + 1) ((zs0 ++ [z]).map fun z : Nat => Iv (z : Nat)) :: HA.forest tv.fp (init ++ [last]) tv.kcs :: tkB g3 k :: (restH rv ++ R)) (fun w hs => ?_) ?_
    · have e0 := hs.ent (H' := PB g fg (rv.length + 1) fcap (PR p.groups p.shut p.size) :: FB fg (rv.length + 1) fcap (preC rv ++ tv.cells p.top) :: KR tv.kad p.top.kids.length tv.kcap tv.kcs :: ZR tv.sad tv.scap p.top.sizes :: HA.forest tv.fp p.top.kids tv.kcs :: tkB g3 k :: (restH rv ++ R)) (.i (by repeat constructor))
      dsimp only [FV.cells, ZR] at e0
      rw [hkl2, hzl2] at e0
      rw [hki, hzi] at e0
      exact e0
    refine .go ?_; repeat constructor
    refine EL.move rfl rfl rfl ?_
    refine EL.fieldAddr rfl rfl rfl rfl rfl rfl rfl rfl ?_
    (apply EL.loadB; exact rfl; exact rfl; exact rfl; exact rfl; exact rfl; (case hm => repeat constructor); exact rfl)
    refine EL.fieldAddr rfl rfl rfl rfl rfl rfl rfl rfl ?_
    (apply EL.loadB; exact rfl; exact rfl; exact rfl; exact rfl; exact rfl; (case hm => repeat constructor); exact rfl)
    (refine EL.callM rfl rfl rfl ent81 rfl hrc (by repeat constructor) ?_; intro x)
    refine EL.assign rfl rfl rfl ?_
    refine .go ?_; repeat constructor
    refine PX.ret rfl Try.results58 (.cons (.tmp rfl) .nil) (fun w hs => ⟨⟨⟨fg, fcap, ⟨tv.kad, tv.kcap, tv.sad, tv.scap, tv.kcs.take (init.length * 9) ++ reCells (.rep k.lo.toNat k.hi last) (.slice (some ⟨x, 0, none⟩) 1 1), x :: tv.fp⟩, rv⟩, hrv⟩, rfl, tk_ok _ ?_⟩)
    have e1 : (init ++ [RE.rep k.lo.toNat k.hi last]).length = init.length + 1 := by simp
    have e2 : (zs0 ++ [z * timesM k.lo.toNat k.hi]).length = zs0.length + 1 := by simp
    show Sat w0 B (PB g fg (rv.length + 1) fcap (PR p.groups p.shut (p.size - z + z * timesM k.lo.toNat k.hi)) :: FB fg (rv.length + 1) fcap (preC rv ++ frC tv.kad (init ++ [RE.rep k.lo.toNat k.hi last]).length tv.kcap tv.sad (zs0 ++ [z * timesM k.lo.toNat k.hi]).length tv.scap p.top.group p.top.at_) :: KR tv.kad (init ++ [RE.rep k.lo.toNat k.hi last]).length tv.kcap (tv.kcs.take (init.length * 9) ++ reCells (.rep k.lo.toNat k.hi last) (.slice (some ⟨x, 0, none⟩) 1 1)) :: HA.row (.slice tv.sad (zs0 ++ [z * timesM k.lo.toNat k.hi]).length tv.scap) 3 1 (zs0 ++ [z * timesM k.lo.toNat k.hi]).length ((zs0 ++ [z * timesM k.lo.toNat k.hi]).map fun z : Nat => Iv (z : Nat)) :: HA.forest (x :: tv.fp) (init ++ [.rep k.lo.toNat k.hi last]) (tv.kcs.take (init.length * 9) ++ reCells (.rep k.lo.toNat k.hi last) (.slice (some ⟨x, 0, none⟩) 1 1)) :: (restH rv ++ R)) w
    rw [e1, e2]
    exact hs.ent (.i (by repeat constructor))
  refine .go ?_; repeat constructor
  refine EL.eqlI rfl rfl rfl rfl ?_
  refine EL.assign rfl rfl rfl ?_
  refine .go ?_; repeat constructor
  refine ES.condD rfl (fun h6 => ?_) (fun h6 => ?_)
  · have hk0 : k.kind = 6 := by omega
    obtain ⟨hlo1, hlo2⟩ := hk.back hk0
    rw [takeM_6 hk0]
    obtain ⟨lo, hlo⟩ : ∃ lo : Nat, k.lo = (lo : Int) := ⟨k.lo.toNat, by omega⟩
    have hlo' : k.lo.toNat = lo := by omega
    rw [hlo']
    refine ES.imp (H' := HA.blk g3 (.cells #[Iv (k.kind : Nat), Iv (k.at_ : Nat), Wv k.set.a, Wv k.set.b, Wv k.set.c, Wv k.set.d, Iv (lo : Nat), Iv k.hi, Iv k.e] 148) :: PB g fg (rv.length + 1) fcap (PR p.groups p.shut p.size) :: FB fg (rv.length + 1) fcap (preC rv ++ tv.cells p.top) :: KR tv.kad p.top.kids.length tv.kcap tv.kcs :: ZR tv.sad tv.scap p.top.sizes :: HA.forest tv.fp p.top.kids tv.kcs :: (restH rv ++ R)) (fun w hs => ?_) ?_
    · rw [← hlo]; exact hs.ent (.i (by repeat constructor))
    refine .g0 ?_; repeat constructor
    refine ES.draw (X := Unit) (fun _ => [(0, Pv g 0), (3, Pv g3 0), (53, .bool (!(p.shut.getD lo false)))]) (fun _ => HA.blk g3 (.cells #[Iv (k.kind : Nat), Iv (k.at_ : Nat), Wv k.set.a, Wv k.set.b, Wv k.set.c, Wv k.set.d, Iv (lo : Nat), Iv k.hi, Iv k.e] 148) :: PB g fg (rv.length + 1) fcap (PR p.groups p.shut p.size) :: FB fg (rv.length + 1) fcap (preC rv ++ tv.cells p.top) :: KR tv.kad p.top.kids.length tv.kcap tv.kcs :: ZR tv.sad tv.scap p.top.sizes :: HA.forest tv.fp p.top.kids tv.kcs :: (restH rv ++ R)) (PB g fg (rv.length + 1) fcap (PR p.groups p.shut p.size) :: HA.blk g3 (.cells #[Iv (k.kind : Nat), Iv (k.at_ : Nat), Wv k.set.a, Wv k.set.b, Wv k.set.c, Wv k.set.d, Iv (lo : Nat), Iv k.hi, Iv k.e] 148) :: (restH rv ++ R)) mixed (.i (by repeat constructor)) ?_ (fun _ => ?_)
    · refine ED.take 0 rfl (by decide +kernel) CutX.no_panic (by decide +kernel) rfl rfl rfl (RV.move rfl) ?_
      refine ED.take 1 rfl (by decide +kernel) CutX.no_panic (by decide +kernel) rfl rfl rfl (RV.fieldAddr rfl rfl rfl rfl rfl rfl) ?_
      refine ED.take 2 rfl (by decide +kernel) CutX.no_panic (by decide +kernel) rfl rfl rfl (RV.loadB rfl rfl rfl (by repeat constructor) rfl) ?_
      refine ED.take 3 rfl (by decide +kernel) CutX.no_panic (by decide +kernel) rfl rfl rfl (RV.nilCheck rfl) ?_
      refine ED.take 4 rfl (by decide +kernel) CutX.no_panic (by decide +kernel) rfl rfl rfl (RV.fieldAddr rfl rfl rfl rfl rfl rfl) ?_
      refine ED.take 5 rfl (by decide +kernel) CutX.no_panic (by decide +kernel) rfl rfl rfl (RV.indexAddrA (i := lo) rfl rfl rfl rfl rfl (by omega)) ?_
      refine ED.take 6 rfl (by decide +kernel) CutX.no_panic (by decide +kernel) rfl rfl rfl (RV.loadB rfl rfl rfl (by repeat constructor) (by have := pr_shut_get (.slice (some ⟨fg, 0, none⟩) (rv.length + 1) fcap) p.groups p.size lo p.shut (by omega); rw [show 2 + lo = 0 + 2 + lo * 1 by omega] at this; exact this)) ?_
      refine ED.take 7 rfl (by decide +kernel) CutX.no_panic (by decide +kernel) rfl rfl rfl (RV.not rfl) ?_
      refine ED.done (by decide +kernel) ?_
      exact PX.cutX () ⟨rfl, rfl, rfl, trivial⟩ (.i (by repeat constructor))
    refine ES.cond rfl (fun hs => ?_) (fun hs => ?_)
    · rw [if_neg (by simpa using hs)]
      refine .go ?_; repeat constructor
      refine EL.assign rfl rfl rfl ?_
      refine .go ?_; repeat constructor
      exact PX.ret rfl Try.results58 (.cons (.tmp rfl) .nil) (fun w hs => ⟨TXs.any _, rfl, tk_err _ (fun e => by cases e) (Sat.tailL (A := restH rv) (hs.ent (.i (by repeat constructor))))⟩)
    · rw [if_pos (by simpa using hs)]
      refine .go ?_; repeat constructor
      refine EL.move rfl rfl rfl ?_
      refine EL.fieldAddr rfl rfl rfl rfl rfl rfl rfl rfl ?_
      (apply EL.loadB; exact rfl; exact rfl; exact rfl; exact rfl; exact rfl; (case hm => repeat constructor); exact rfl)
      refine EL.buildS (reCells (.back lo) (.slice none 0 0)).toArray rfl rfl rfl rfl rfl rfl rfl ?_
      (refine EL.callM rfl rfl rfl ent77 rfl (hpl (.back lo) rfl 1) (Takes.behind (HA.blk g3 (.cells #[Iv (k.kind : Nat), Iv (k.at_ : Nat), Wv k.set.a, Wv k.set.b, Wv k.set.c, Wv k.set.d, Iv (lo : Nat), Iv k.hi, Iv k.e] 148)) (PH g fg fcap p tv rv) R) ?_; intro x; refine EL.imp (H' := PH g fg fcap { p with top := p.top.put (.back lo) 1 } ⟨x.1.1, x.1.2, x.2.1, x.2.2, tv.kcs ++ reCells (.back lo) (.slice none 0 0), tv.fp⟩ rv ++ R) (fun w hs => Sat.dropMid hs) ?_)
      refine .go ?_; repeat constructor
      refine EL.move rfl rfl rfl ?_
      refine EL.callM1 rfl rfl rfl ent78 rfl hgrow (.cons (.here _ _) (.nil _)) ?_
      refine EL.assign rfl rfl rfl ?_
      refine .go ?_; repeat constructor
      exact PX.ret rfl Try.results58 (.cons (.tmp rfl) .nil) (fun w hs => ⟨⟨⟨fg, fcap, ⟨x.1.1, x.1.2, x.2.1, x.2.2, tv.kcs ++ reCells (.back lo) (.slice none 0 0), tv.fp⟩, rv⟩, hrv⟩, rfl, tk_ok _ hs⟩)
  refine .go ?_; repeat constructor
  refine EL.fieldAddr rfl rfl rfl rfl rfl rfl rfl rfl ?_
  (apply EL.loadB; exact rfl; exact rfl; exact rfl; exact rfl; exact rfl; (case hm => repeat constructor); exact rfl)
  refine EL.assign rfl rfl rfl ?_
  refine .go ?_; repeat constructor
  rw [takeM_7 (by omega)]
  exact PX.ret rfl Try.results58 (.cons (.tmp rfl) .nil) (fun w hs => ⟨⟨⟨fg, fcap, tv, rv⟩, hrv⟩, rfl, tk_ok _ (hs.ent (H' := PB g fg (rv.length + 1) fcap (PR p.groups p.shut p.size) :: FB fg (rv.length + 1) fcap (preC rv ++ tv.cells p.top) :: KR tv.kad p.top.kids.length tv.kcap tv.kcs :: ZR tv.sad tv.scap p.top.sizes :: HA.forest tv.fp p.top.kids tv.kcs :: (restH rv ++ R)) (.i (by repeat constructor)))⟩)
end Go.Proofs.Ytblpgpgbnlhjlaa
