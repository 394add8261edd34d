/- Layer 7 (nfa): the walks of add, link, step. -/
import Derived.Test.YtblpgpgbnlhjlaaAd
namespace Go.Proofs.Ytblpgpgbnlhjlaa
open Go Go.RowKit Sl
set_option maxRecDepth 100000
set_option maxHeartbeats 8000000
set_option linter.unusedVariables false
set_option linter.unusedSimpArgs false
attribute [local irreducible] ES EL PX wps

abbrev nilE : EP := (.slice none 0 0, [])
theorem OR_app {ad : Option Addr} {cap : Nat} {ps : List EP} : HA.row (.slice ad (ps.length + 1) cap) 213 1 (ps.length + 1) (ps.map Prod.fst ++ [.slice none 0 0]) = OR ad cap (ps ++ [nilE]) := by
  unfold OR
  rw [List.length_append, List.length_singleton, List.map_append]; rfl
theorem nfaAdd_c (ga : Nat) (v : AV) (en : Nat) (a : AM) (hv : v.Is a) (hn : v.ps.length ≤ 1073741824) (hm : v.qs.length ≤ 1073741824) :
    Mut Try.prog 65 #[Pv ga 0] (AH ga v en) (fun _ : AX a.add => Iv (a.out.length : Nat)) (fun x => AH ga x.1 en) := by
  intro w0 B R w h
  obtain ⟨oad, ocap, bad, bcap, ps, qs⟩ := v
  obtain ⟨ho, hb⟩ := hv
  dsimp only at ho hb hn hm
  have hlen : a.out.length = ps.length := by rw [← ho, List.length_map]
  replace h : Sat w0 B (HA.blk ga (.cells #[.slice oad ps.length ocap, .slice bad qs.length bcap, Iv (en : Nat)] 163) :: OR oad ocap ps :: HA.edg ps :: OR bad bcap qs :: HA.edg qs :: R) w := h
  refine calls_of_ES TB Try.func65 rfl _ Try.ntmps65 rfl h ?_
  refine .go ?_; repeat constructor
  refine EL.assign rfl rfl rfl ?_
  refine .go ?_; repeat constructor
  refine EL.move rfl rfl rfl ?_
  refine EL.move rfl rfl rfl ?_
  refine EL.nilCheck rfl rfl rfl ?_
  refine EL.fieldAddr rfl rfl rfl rfl rfl rfl rfl rfl ?_
  (apply EL.loadB; exact rfl; exact rfl; exact rfl; exact rfl; exact rfl; (case hm => repeat constructor); exact rfl)
  (refine EL.buildSlice1 rfl rfl rfl rfl rfl rfl rfl rfl rfl rfl ?_; intro b8)
  (refine EL.append1 rfl rfl rfl rfl rfl rfl rfl rfl rfl (by repeat constructor) (by repeat constructor) (by first | (intro u hu; simp [Value.cells] at hu; subst hu; rfl) | exact all1 rfl) (by rfl) (by unfold maxLen; omega) (by first | omega | (show 1 * _ ≤ _; omega) | (show 8 * _ ≤ _; omega) | (show 16 * _ ≤ _; omega) | (show 24 * _ ≤ _; omega) | (show _ * 1 ≤ _; omega) | (show _ * 8 ≤ _; omega) | (show _ * 16 ≤ _; omega) | (show _ * 24 ≤ _; omega) | exact Nat.le_trans (Nat.mul_le_mul_right _ (show _ ≤ 1073741824 by omega)) (by decide)) ?_; intro a9 c9)
  refine EL.nilCheck rfl rfl rfl ?_
  refine EL.fieldAddr rfl rfl rfl rfl rfl rfl rfl rfl ?_
  (apply EL.storeB; exact rfl; exact rfl; exact rfl; exact rfl; exact rfl; exact rfl; (case p => repeat constructor); exact (by first | decide | exact Nat.le_of_ble_eq_true rfl | simp))
  refine .go ?_; repeat constructor
  refine EL.move rfl rfl rfl ?_
  refine EL.move rfl rfl rfl ?_
  refine EL.nilCheck rfl rfl rfl ?_
  refine EL.fieldAddr rfl rfl rfl rfl rfl rfl rfl rfl ?_
  (apply EL.loadB; exact rfl; exact rfl; exact rfl; exact rfl; exact rfl; (case hm => repeat constructor); exact rfl)
  (refine EL.buildSlice1 rfl rfl rfl rfl rfl rfl rfl rfl rfl rfl ?_; intro b17)
  (refine EL.append1 rfl rfl rfl rfl rfl rfl rfl rfl rfl (by repeat constructor) (by repeat constructor) (by first | (intro u hu; simp [Value.cells] at hu; subst hu; rfl) | exact all1 rfl) (by rfl) (by unfold maxLen; omega) (by first | omega | (show 1 * _ ≤ _; omega) | (show 8 * _ ≤ _; omega) | (show 16 * _ ≤ _; omega) | (show 24 * _ ≤ _; omega) | (show _ * 1 ≤ _; omega) | (show _ * 8 ≤ _; omega) | (show _ * 16 ≤ _; omega) | (show _ * 24 ≤ _; omega) | exact Nat.le_trans (Nat.mul_le_mul_right _ (show _ ≤ 1073741824 by omega)) (by decide)) ?_; intro a18 c18)
  refine EL.nilCheck rfl rfl rfl ?_
  refine EL.fieldAddr rfl rfl rfl rfl rfl rfl rfl rfl ?_
  (apply EL.storeB; exact rfl; exact rfl; exact rfl; exact rfl; exact rfl; exact rfl; (case p => repeat constructor); exact (by first | decide | exact Nat.le_of_ble_eq_true rfl | simp))
  refine .go ?_; repeat constructor
  refine EL.move rfl rfl rfl ?_
  refine EL.nilCheck rfl rfl rfl ?_
  refine EL.fieldAddr rfl rfl rfl rfl rfl rfl rfl rfl ?_
  (apply EL.loadB; exact rfl; exact rfl; exact rfl; exact rfl; exact rfl; (case hm => repeat constructor); exact rfl)
  refine EL.lenL rfl rfl rfl rfl rfl ?_
  refine EL.sub1 rfl rfl rfl rfl (by omega) (by omega) ?_
  refine EL.assign rfl rfl rfl ?_
  refine .go ?_; repeat constructor
  refine PX.ret rfl Try.results65 (.cons (.tmp rfl) .nil) (fun w hs => ⟨⟨⟨some ⟨a9, 0, none⟩, c9, some ⟨a18, 0, none⟩, c18, ps ++ [nilE], qs ++ [nilE]⟩, ⟨by simp [AM.add, ← ho], by simp [AM.add, ← hb]⟩⟩, by rw [hlen]; rfl, ?_⟩)
  have h1 := Sat.edgNew (hs.ent (H' := HA.edg ps :: HA.blk ga (.cells #[.slice (some ⟨a9, 0, none⟩) (ps.length + 1) c9, .slice (some ⟨a18, 0, none⟩) (qs.length + 1) c18, Iv (en : Nat)] 163) :: HA.row (.slice (some ⟨a9, 0, none⟩) (ps.length + 1) c9) 213 1 (ps.length + 1) (ps.map Prod.fst ++ [.slice none 0 0]) :: HA.row (.slice (some ⟨a18, 0, none⟩) (qs.length + 1) c18) 213 1 (qs.length + 1) (qs.map Prod.fst ++ [.slice none 0 0]) :: HA.edg qs :: R) (.i (by repeat constructor)))
  have h2 := Sat.edgNew (h1.ent (H' := HA.edg qs :: HA.edg (ps ++ [nilE]) :: HA.blk ga (.cells #[.slice (some ⟨a9, 0, none⟩) (ps.length + 1) c9, .slice (some ⟨a18, 0, none⟩) (qs.length + 1) c18, Iv (en : Nat)] 163) :: HA.row (.slice (some ⟨a9, 0, none⟩) (ps.length + 1) c9) 213 1 (ps.length + 1) (ps.map Prod.fst ++ [.slice none 0 0]) :: HA.row (.slice (some ⟨a18, 0, none⟩) (qs.length + 1) c18) 213 1 (qs.length + 1) (qs.map Prod.fst ++ [.slice none 0 0]) :: R) (.i (by repeat constructor)))
  rw [OR_app, OR_app] at h2
  have e1 : (ps ++ [nilE]).length = ps.length + 1 := by simp
  have e2 : (qs ++ [nilE]).length = qs.length + 1 := by simp
  show Sat w0 B (HA.blk ga (.cells #[.slice (some ⟨a9, 0, none⟩) (ps ++ [nilE]).length c9, .slice (some ⟨a18, 0, none⟩) (qs ++ [nilE]).length c18, Iv (en : Nat)] 163) :: OR (some ⟨a9, 0, none⟩) c9 (ps ++ [nilE]) :: HA.edg (ps ++ [nilE]) :: OR (some ⟨a18, 0, none⟩) c18 (qs ++ [nilE]) :: HA.edg (qs ++ [nilE]) :: R) w
  rw [e1, e2]
  exact h2.ent (.i (by repeat constructor))
theorem ep_split {ps : List EP} {i : Nat} (h : i < ps.length) : ∃ l p m, ps = l ++ p :: m ∧ l.length = i := ⟨ps.take i, ps[i], ps.drop (i + 1), by rw [List.getElem_cons_drop, List.take_append_drop], by rw [List.length_take]; omega⟩
theorem fst_at (l m : List EP) (p : EP) : ((l ++ p :: m).map Prod.fst)[l.length]? = some p.1 := by simp
theorem fst_set (l m : List EP) (p : EP) (u : Value) (es : List Ed) : ((l ++ p :: m).map Prod.fst).set l.length u = (l ++ (u, es) :: m).map Prod.fst := by simp
theorem addTo_split (l m : List EP) (p : EP) (e : Ed) (u : Value) : addTo ((l ++ p :: m).map Prod.snd) l.length e = (l ++ (u, p.2 ++ [e]) :: m).map Prod.snd := by
  unfold addTo
  simp [List.getD_eq_getElem?_getD]
theorem row_val {w : World} {e sz n : Nat} {v : Value} {cs : List Value} (h : w.ownsRow 0 e sz v n cs) : ∃ ad cap, v = .slice ad n cap := by
  obtain ⟨_, (⟨h1, h2⟩ | ⟨g, cap, cur, h1, _⟩)⟩ := h
  · exact ⟨none, 0, by rw [h1, h2]⟩
  · exact ⟨_, _, h1⟩
theorem edsC_app (es : List Ed) (e : Ed) : edsC (es ++ [e]) = edsC es ++ edC e := by simp [edsC]
theorem nfaLink_c (ga : Nat) (v : AV) (en : Nat) (a : AM) (hv : v.Is a) (f t k : Nat) (s : BS) (hf : f < v.ps.length) (ht : t < v.qs.length) (hn : v.ps.length ≤ 1073741824) (hm : v.qs.length ≤ 1073741824) (he : ∀ p ∈ v.ps, p.2.length ≤ 16777216) (he2 : ∀ p ∈ v.qs, p.2.length ≤ 16777216) :
    Mut Try.prog 89 #[Pv ga 0, Iv (f : Nat), Iv (t : Nat), Iv (k : Nat), Bs s] (AH ga v en) (fun _ : AX (a.link f t k s) => .tuple #[]) (fun x => AH ga x.1 en) := by
  intro w0 B R w h
  obtain ⟨oad, ocap, bad, bcap, ps, qs⟩ := v
  obtain ⟨ho, hb⟩ := hv
  dsimp only at ho hb hn hm hf ht he he2
  obtain ⟨l, p, m, rfl, rfl⟩ := ep_split hf
  obtain ⟨l2, p2, m2, rfl, rfl⟩ := ep_split ht
  have h1 := Sat.edgOut (h.ent (H' := HA.edg (l ++ p :: m) :: HA.blk ga (.cells #[.slice oad (l ++ p :: m).length ocap, .slice bad (l2 ++ p2 :: m2).length bcap, Iv (en : Nat)] 163) :: OR oad ocap (l ++ p :: m) :: OR bad bcap (l2 ++ p2 :: m2) :: HA.edg (l2 ++ p2 :: m2) :: R) (.i (by repeat constructor)))
  have h2 := Sat.edgOut (h1.ent (H' := HA.edg (l2 ++ p2 :: m2) :: HA.blk ga (.cells #[.slice oad (l ++ p :: m).length ocap, .slice bad (l2 ++ p2 :: m2).length bcap, Iv (en : Nat)] 163) :: OR oad ocap (l ++ p :: m) :: edRow p :: HA.edg (l ++ m) :: OR bad bcap (l2 ++ p2 :: m2) :: R) (.i (by repeat constructor)))
  have hpe := he p (by simp)
  have hpe2 := he2 p2 (by simp)
  obtain ⟨pv, pe⟩ := p
  obtain ⟨pv2, pe2⟩ := p2
  dsimp only at hpe hpe2
  have hr1 : w.ownsRow 0 215 6 pv pe.length (edsC pe) := h2.all (edRow (pv, pe)) (by simp)
  have hr2 : w.ownsRow 0 215 6 pv2 pe2.length (edsC pe2) := h2.all (edRow (pv2, pe2)) (by simp)
  obtain ⟨iad, icap, rfl⟩ := row_val hr1
  obtain ⟨iad2, icap2, rfl⟩ := row_val hr2
  have hpl : l.length < (l ++ (Value.slice iad pe.length icap, pe) :: m).length := by simp
  have hpl2 : l2.length < (l2 ++ (Value.slice iad2 pe2.length icap2, pe2) :: m2).length := by simp
  have hset := fun u => fst_set l m (Value.slice iad pe.length icap, pe) u (pe ++ [⟨k, s, l2.length⟩])
  have hset2 := fun u => fst_set l2 m2 (Value.slice iad2 pe2.length icap2, pe2) u (pe2 ++ [⟨k, s, l.length⟩])
  have hat := fst_at l m (Value.slice iad pe.length icap, pe)
  have hat2 := fst_at l2 m2 (Value.slice iad2 pe2.length icap2, pe2)
  have hs1 := fun u => addTo_split l m (Value.slice iad pe.length icap, pe) ⟨k, s, l2.length⟩ u
  have hs2 := fun u => addTo_split l2 m2 (Value.slice iad2 pe2.length icap2, pe2) ⟨k, s, l.length⟩ u
  have hln : ∀ u es, (l ++ ((u, es) : EP) :: m).length = (l ++ (Value.slice iad pe.length icap, pe) :: m).length := fun u es => by simp
  have hln2 : ∀ u es, (l2 ++ ((u, es) : EP) :: m2).length = (l2 ++ (Value.slice iad2 pe2.length icap2, pe2) :: m2).length := fun u es => by simp
  rw [ho] at hs1
  rw [hb] at hs2
  obtain ⟨og, rfl⟩ := (row_form (h.all (OR oad ocap (l ++ (Value.slice iad pe.length icap, pe) :: m)) (by simp))).2.2.2.2 (by omega)
  obtain ⟨bg, rfl⟩ := (row_form (h.all (OR bad bcap (l2 ++ (Value.slice iad2 pe2.length icap2, pe2) :: m2)) (by simp))).2.2.2.2 (by omega)
  replace h : Sat w0 B (HA.blk ga (.cells #[.slice (some ⟨og, 0, none⟩) (l ++ (Value.slice iad pe.length icap, pe) :: m).length ocap, .slice (some ⟨bg, 0, none⟩) (l2 ++ (Value.slice iad2 pe2.length icap2, pe2) :: m2).length bcap, Iv (en : Nat)] 163) :: OR (some ⟨og, 0, none⟩) ocap (l ++ (Value.slice iad pe.length icap, pe) :: m) :: HA.row (.slice iad pe.length icap) 215 6 pe.length (edsC pe) :: HA.edg (l ++ m) :: OR (some ⟨bg, 0, none⟩) bcap (l2 ++ (Value.slice iad2 pe2.length icap2, pe2) :: m2) :: HA.row (.slice iad2 pe2.length icap2) 215 6 pe2.length (edsC pe2) :: HA.edg (l2 ++ m2) :: R) w := h2.ent (.i (by repeat constructor))
  unfold OR at h
  generalize (l ++ (Value.slice iad pe.length icap, pe) :: m).length = N at *
  generalize (l2 ++ (Value.slice iad2 pe2.length icap2, pe2) :: m2).length = M at *
  generalize hF : (l ++ (Value.slice iad pe.length icap, pe) :: m).map Prod.fst = F at *
  generalize hF2 : (l2 ++ (Value.slice iad2 pe2.length icap2, pe2) :: m2).map Prod.fst = F2 at *
  have hFl : l.length < F.length := by rw [← hF]; simp
  have hFl2 : l2.length < F2.length := by rw [← hF2]; simp
  obtain ⟨K1, hK1⟩ : ∃ K1, K1 = HA.edg (l ++ m) := ⟨_, rfl⟩
  obtain ⟨K2, hK2⟩ : ∃ K2, K2 = HA.edg (l2 ++ m2) := ⟨_, rfl⟩
  rw [← hK1, ← hK2] at h
  refine calls_of_ES TB Try.func89 rfl _ Try.ntmps89 rfl h ?_
  refine .go ?_; repeat constructor
  (refine EL.box rfl rfl rfl ?_; intro g9)
  refine .go ?_; repeat constructor
  refine ES.draw (X := Nat × Nat) (fun _ => [(0, Pv ga 0), (1, Iv (l.length : Nat)), (2, Iv (l2.length : Nat)), (3, Iv (k : Nat)), (9, Pv g9 0)])
    (fun x => HA.blk g9 (.cells #[Wv s.a, Wv s.b, Wv s.c, Wv s.d] 79) :: HA.blk ga (.cells #[.slice (some ⟨og, 0, none⟩) N ocap, .slice (some ⟨bg, 0, none⟩) M bcap, Iv (en : Nat)] 163) :: HA.row (.slice (some ⟨og, 0, none⟩) N ocap) 213 1 N (F.set l.length (.slice (some ⟨x.1, 0, none⟩) (pe.length + 1) x.2)) :: HA.row (.slice (some ⟨x.1, 0, none⟩) (pe.length + 1) x.2) 215 6 (pe.length + 1) (edsC pe ++ edC ⟨k, s, l2.length⟩) :: K1 :: HA.row (.slice (some ⟨bg, 0, none⟩) M bcap) 213 1 M F2 :: HA.row (.slice iad2 pe2.length icap2) 215 6 pe2.length (edsC pe2) :: K2 :: R)
    (HA.blk g9 (.cells #[Wv s.a, Wv s.b, Wv s.c, Wv s.d] 79) :: HA.blk ga (.cells #[.slice (some ⟨og, 0, none⟩) N ocap, .slice (some ⟨bg, 0, none⟩) M bcap, Iv (en : Nat)] 163) :: HA.row (.slice (some ⟨og, 0, none⟩) N ocap) 213 1 N F :: []) mixed (.i (by repeat constructor)) ?_ (fun x => ?_)
  · refine ED.take 0 rfl (by decide +kernel) CutX.no_panic (by decide +kernel) rfl rfl rfl (RV.move rfl) ?_
    refine ED.take 1 rfl (by decide +kernel) CutX.no_panic (by decide +kernel) rfl rfl rfl (RV.nilCheck rfl) ?_
    refine ED.take 2 rfl (by decide +kernel) CutX.no_panic (by decide +kernel) rfl rfl rfl (RV.fieldAddr rfl rfl rfl rfl rfl rfl) ?_
    refine ED.take 3 rfl (by decide +kernel) CutX.no_panic (by decide +kernel) rfl rfl rfl (RV.loadB rfl rfl rfl (by repeat constructor) rfl) ?_
    refine ED.take 4 rfl (by decide +kernel) CutX.no_panic (by decide +kernel) rfl rfl rfl (RV.move rfl) ?_
    refine ED.take 5 rfl (by decide +kernel) CutX.no_panic (by decide +kernel) rfl rfl rfl (RV.move rfl) ?_
    refine ED.take 6 rfl (by decide +kernel) CutX.no_panic (by decide +kernel) rfl rfl rfl (RV.nilCheck rfl) ?_
    refine ED.take 7 rfl (by decide +kernel) CutX.no_panic (by decide +kernel) rfl rfl rfl (RV.fieldAddr rfl rfl rfl rfl rfl rfl) ?_
    refine ED.take 8 rfl (by decide +kernel) CutX.no_panic (by decide +kernel) rfl rfl rfl (RV.loadB rfl rfl rfl (by repeat constructor) rfl) ?_
    refine ED.take 9 rfl (by decide +kernel) CutX.no_panic (by decide +kernel) rfl rfl rfl (RV.move rfl) ?_
    refine ED.take 10 rfl (by decide +kernel) CutX.no_panic (by decide +kernel) rfl rfl rfl (RV.indexAddrL1 rfl rfl rfl rfl rfl rfl (by omega)) ?_
    refine ED.take 11 rfl (by decide +kernel) CutX.no_panic (by decide +kernel) rfl rfl rfl (RV.loadR rfl rfl rfl (by repeat constructor) hat) ?_
    refine ED.take 12 rfl (by decide +kernel) CutX.no_panic (by decide +kernel) rfl rfl rfl (RV.move rfl) ?_
    refine ED.take 13 rfl (by decide +kernel) CutX.no_panic (by decide +kernel) rfl rfl rfl (RV.loadAggB rfl rfl rfl (by repeat constructor) rfl) ?_
    refine ED.take 14 rfl (by decide +kernel) CutX.no_panic (by decide +kernel) rfl rfl rfl (RV.move rfl) ?_
    refine ED.take 15 rfl (by decide +kernel) CutX.no_panic (by decide +kernel) rfl rfl rfl (RV.buildS (edC ⟨k, s, l2.length⟩).toArray rfl rfl rfl rfl (by kernel_rfl)) ?_
    refine ED.loud 16 rfl (by decide +kernel) ?_
    (refine EL.buildSlice1 rfl rfl rfl rfl rfl rfl rfl rfl rfl rfl ?_; intro b26)
    refine ED.next (.i (by repeat constructor)) ?_
    refine ED.loud 17 rfl (by decide +kernel) ?_
    (refine EL.append1 rfl rfl rfl rfl rfl rfl rfl rfl rfl (by repeat constructor) (by repeat constructor) (all1 rfl) (by rfl) (by unfold maxLen; omega) (by show (pe.length + 1) * 48 ≤ _; omega) ?_; intro a27 c27)
    refine ED.next (.i (by repeat constructor)) ?_
    refine ED.take 18 rfl (by decide +kernel) CutX.no_panic (by decide +kernel) rfl rfl rfl (RV.indexAddrL1 rfl rfl rfl rfl rfl rfl (by omega)) ?_
    refine ED.last 19 rfl (by decide +kernel) (by decide +kernel) (by decide +kernel) ?_
    refine EL.storeR rfl rfl rfl rfl rfl rfl (by repeat constructor) (by first | omega | (simp; omega)) ?_
    refine EL.endQ ?_
    exact PX.cutX (a27, c27) ⟨rfl, rfl, rfl, rfl, rfl, trivial⟩ (.i (by repeat constructor))
  refine .g0 ?_; repeat constructor
  refine ES.draw (X := Nat × Nat) (fun _ => [(0, Pv ga 0)])
    (fun y => HA.blk ga (.cells #[.slice (some ⟨og, 0, none⟩) N ocap, .slice (some ⟨bg, 0, none⟩) M bcap, Iv (en : Nat)] 163) :: HA.row (.slice (some ⟨og, 0, none⟩) N ocap) 213 1 N (F.set l.length (.slice (some ⟨x.1, 0, none⟩) (pe.length + 1) x.2)) :: HA.row (.slice (some ⟨x.1, 0, none⟩) (pe.length + 1) x.2) 215 6 (pe.length + 1) (edsC pe ++ edC ⟨k, s, l2.length⟩) :: K1 :: HA.row (.slice (some ⟨bg, 0, none⟩) M bcap) 213 1 M (F2.set l2.length (.slice (some ⟨y.1, 0, none⟩) (pe2.length + 1) y.2)) :: HA.row (.slice (some ⟨y.1, 0, none⟩) (pe2.length + 1) y.2) 215 6 (pe2.length + 1) (edsC pe2 ++ edC ⟨k, s, l.length⟩) :: K2 :: R)
    (HA.blk g9 (.cells #[Wv s.a, Wv s.b, Wv s.c, Wv s.d] 79) :: HA.blk ga (.cells #[.slice (some ⟨og, 0, none⟩) N ocap, .slice (some ⟨bg, 0, none⟩) M bcap, Iv (en : Nat)] 163) :: HA.row (.slice (some ⟨bg, 0, none⟩) M bcap) 213 1 M F2 :: []) mixed (.i (by repeat constructor)) ?_ (fun y => ?_)
  · refine ED.take 0 rfl (by decide +kernel) CutX.no_panic (by decide +kernel) rfl rfl rfl (RV.move rfl) ?_
    refine ED.take 1 rfl (by decide +kernel) CutX.no_panic (by decide +kernel) rfl rfl rfl (RV.nilCheck rfl) ?_
    refine ED.take 2 rfl (by decide +kernel) CutX.no_panic (by decide +kernel) rfl rfl rfl (RV.fieldAddr rfl rfl rfl rfl rfl rfl) ?_
    refine ED.take 3 rfl (by decide +kernel) CutX.no_panic (by decide +kernel) rfl rfl rfl (RV.loadB rfl rfl rfl (by repeat constructor) rfl) ?_
    refine ED.take 4 rfl (by decide +kernel) CutX.no_panic (by decide +kernel) rfl rfl rfl (RV.move rfl) ?_
    refine ED.take 5 rfl (by decide +kernel) CutX.no_panic (by decide +kernel) rfl rfl rfl (RV.move rfl) ?_
    refine ED.take 6 rfl (by decide +kernel) CutX.no_panic (by decide +kernel) rfl rfl rfl (RV.nilCheck rfl) ?_
    refine ED.take 7 rfl (by decide +kernel) CutX.no_panic (by decide +kernel) rfl rfl rfl (RV.fieldAddr rfl rfl rfl rfl rfl rfl) ?_
    refine ED.take 8 rfl (by decide +kernel) CutX.no_panic (by decide +kernel) rfl rfl rfl (RV.loadB rfl rfl rfl (by repeat constructor) rfl) ?_
    refine ED.take 9 rfl (by decide +kernel) CutX.no_panic (by decide +kernel) rfl rfl rfl (RV.move rfl) ?_
    refine ED.take 10 rfl (by decide +kernel) CutX.no_panic (by decide +kernel) rfl rfl rfl (RV.indexAddrL1 rfl rfl rfl rfl rfl rfl (by omega)) ?_
    refine ED.take 11 rfl (by decide +kernel) CutX.no_panic (by decide +kernel) rfl rfl rfl (RV.loadR rfl rfl rfl (by repeat constructor) hat2) ?_
    refine ED.take 12 rfl (by decide +kernel) CutX.no_panic (by decide +kernel) rfl rfl rfl (RV.move rfl) ?_
    refine ED.take 13 rfl (by decide +kernel) CutX.no_panic (by decide +kernel) rfl rfl rfl (RV.loadAggB rfl rfl rfl (by repeat constructor) rfl) ?_
    refine ED.take 14 rfl (by decide +kernel) CutX.no_panic (by decide +kernel) rfl rfl rfl (RV.move rfl) ?_
    refine ED.take 15 rfl (by decide +kernel) CutX.no_panic (by decide +kernel) rfl rfl rfl (RV.buildS (edC ⟨k, s, l.length⟩).toArray rfl rfl rfl rfl (by kernel_rfl)) ?_
    refine ED.loud 16 rfl (by decide +kernel) ?_
    (refine EL.buildSlice1 rfl rfl rfl rfl rfl rfl rfl rfl rfl rfl ?_; intro b45)
    refine ED.next (.i (by repeat constructor)) ?_
    refine ED.loud 17 rfl (by decide +kernel) ?_
    (refine EL.append1 rfl rfl rfl rfl rfl rfl rfl rfl rfl (by repeat constructor) (by repeat constructor) (all1 rfl) (by rfl) (by unfold maxLen; omega) (by show (pe2.length + 1) * 48 ≤ _; omega) ?_; intro a46 c46)
    refine ED.next (.i (by repeat constructor)) ?_
    refine ED.take 18 rfl (by decide +kernel) CutX.no_panic (by decide +kernel) rfl rfl rfl (RV.indexAddrL1 rfl rfl rfl rfl rfl rfl (by omega)) ?_
    refine ED.last 19 rfl (by decide +kernel) (by decide +kernel) (by decide +kernel) ?_
    refine EL.storeR rfl rfl rfl rfl rfl rfl (by repeat constructor) (by first | omega | (simp; omega)) ?_
    refine EL.endQ ?_
    exact PX.cutX (a46, c46) ⟨rfl, trivial⟩ (.i (by repeat constructor))
  refine .go ?_; repeat constructor
  refine PX.end rfl Try.results89 .nil (fun w hs => ⟨⟨⟨some ⟨og, 0, none⟩, ocap, some ⟨bg, 0, none⟩, bcap, l ++ (.slice (some ⟨x.1, 0, none⟩) (pe.length + 1) x.2, pe ++ [⟨k, s, l2.length⟩]) :: m, l2 ++ (.slice (some ⟨y.1, 0, none⟩) (pe2.length + 1) y.2, pe2 ++ [⟨k, s, l.length⟩]) :: m2⟩, ⟨(hs1 _).symm, (hs2 _).symm⟩⟩, rfl, ?_⟩)
  have e1 : ∀ a : Nat × Nat, HA.row (.slice (some ⟨a.1, 0, none⟩) (pe.length + 1) a.2) 215 6 (pe.length + 1) (edsC pe ++ edC ⟨k, s, l2.length⟩) = edRow ((.slice (some ⟨a.1, 0, none⟩) (pe.length + 1) a.2, pe ++ [⟨k, s, l2.length⟩]) : EP) := fun a => by
    unfold edRow; rw [edsC_app, List.length_append]; rfl
  have e2 : ∀ a : Nat × Nat, HA.row (.slice (some ⟨a.1, 0, none⟩) (pe2.length + 1) a.2) 215 6 (pe2.length + 1) (edsC pe2 ++ edC ⟨k, s, l.length⟩) = edRow ((.slice (some ⟨a.1, 0, none⟩) (pe2.length + 1) a.2, pe2 ++ [⟨k, s, l.length⟩]) : EP) := fun a => by
    unfold edRow; rw [edsC_app, List.length_append]; rfl
  rw [e1, e2, hK1, hK2, hset, hset2] at hs
  have k1 := Sat.edgIn (hs.ent (H' := edRow _ :: HA.edg (l ++ m) :: HA.blk ga _ :: HA.row (.slice (some ⟨og, 0, none⟩) N ocap) 213 1 N _ :: HA.row (.slice (some ⟨bg, 0, none⟩) M bcap) 213 1 M _ :: edRow _ :: HA.edg (l2 ++ m2) :: R) (.i (by repeat constructor)))
  have k2 := Sat.edgIn (k1.ent (H' := edRow _ :: HA.edg (l2 ++ m2) :: HA.edg _ :: HA.blk ga _ :: HA.row (.slice (some ⟨og, 0, none⟩) N ocap) 213 1 N _ :: HA.row (.slice (some ⟨bg, 0, none⟩) M bcap) 213 1 M _ :: R) (.i (by repeat constructor)))
  unfold AH AVal OR
  dsimp only
  rw [hln, hln2]
  exact k2.ent (.i (by repeat constructor))
/-! The automaton as one thing. -/
abbrev AP (ga : Nat) (v : AV) (en : Nat) : HA := HA.pack (AH ga v en)
theorem Mut.pack {X : Type} {P : Program} {f : FuncId} {argv : Array Value} {Hq : List HA} {val : X → Value} {HX : X → List HA} (h : Mut P f argv Hq val HX) : Mut P f argv [HA.pack Hq] val (fun x => [HA.pack (HX x)]) := fun w0 B R w hs =>
  (h w0 B R w hs.unpack).mono (fun e w' ⟨x, he, hs'⟩ => ⟨x, he, hs'.pack⟩)
theorem AV.Is.len {v : AV} {a : AM} (h : v.Is a) : v.ps.length = a.out.length ∧ v.qs.length = a.back.length := ⟨by rw [← h.out, List.length_map], by rw [← h.back, List.length_map]⟩
def AX.cast {a b : AM} (x : AX a) (h : a = b) : AX b := ⟨x.1, h ▸ x.2⟩
theorem nfaAdd_p (ga en : Nat) (a : AM) (x : AX a) (hr : a.Room 1) : Mut Try.prog 65 #[Pv ga 0] [AP ga x.1 en] (fun _ : AX a.add => Iv (a.out.length : Nat)) (fun y => [AP ga y.1 en]) := by
  have hl := x.2.len
  have h1 := hr.out
  have h2 := hr.same
  exact Mut.pack (nfaAdd_c ga x.1 en a x.2 (by omega) (by omega))
theorem nfaLink_p (ga en : Nat) (a : AM) (x : AX a) (f t k : Nat) (s : BS) (hr : a.Room 1) (hf : f < a.out.length) (ht : t < a.out.length) :
    Mut Try.prog 89 #[Pv ga 0, Iv (f : Nat), Iv (t : Nat), Iv (k : Nat), Bs s] [AP ga x.1 en] (fun _ : AX (a.link f t k s) => .tuple #[]) (fun y => [AP ga y.1 en]) := by
  have hl := x.2.len
  have h1 := hr.out
  have h2 := hr.same
  refine Mut.pack (nfaLink_c ga x.1 en a x.2 f t k s (by omega) (by omega) (by omega) (by omega) (fun p hp => ?_) (fun p hp => ?_))
  · have := hr.ro p.2 (by rw [← x.2.out]; exact List.mem_map_of_mem hp)
    omega
  · have := hr.rb p.2 (by rw [← x.2.back]; exact List.mem_map_of_mem hp)
    omega
theorem nfaStep_p (ga en : Nat) (a : AM) (x : AX a) (f k : Nat) (s : BS) (hr : a.Room 2) (hf : f < a.out.length) :
    Mut Try.prog 88 #[Pv ga 0, Iv (f : Nat), Iv (k : Nat), Bs s] [AP ga x.1 en] (fun _ : AX (a.step f k s) => Iv (a.out.length : Nat)) (fun y => [AP ga y.1 en]) := by
  intro w0 B R w h
  replace h : Sat w0 B (AP ga x.1 en :: R) w := h
  have hr1 := add_room hr
  have hal := add_len a
  refine calls_of_ES TB Try.func88 rfl _ Try.ntmps88 rfl h ?_
  refine .go ?_; repeat constructor
  (refine EL.box rfl rfl rfl ?_; intro g7)
  refine EL.assign rfl rfl rfl ?_
  refine .go ?_; repeat constructor
  refine EL.move rfl rfl rfl ?_
  (refine EL.callM rfl rfl rfl ent65 rfl (nfaAdd_p ga en a x (hr.less (by omega))) (by repeat constructor) ?_; intro y)
  refine EL.assign rfl rfl rfl ?_
  refine .go ?_; repeat constructor
  refine .go ?_; repeat constructor
  refine EL.move rfl rfl rfl ?_
  refine EL.move rfl rfl rfl ?_
  refine EL.move rfl rfl rfl ?_
  refine EL.move rfl rfl rfl ?_
  (apply EL.loadAggB; exact rfl; exact rfl; exact rfl; exact rfl; exact rfl; (case hm => repeat constructor); exact rfl)
  (refine EL.callM rfl rfl rfl ent89 rfl (nfaLink_p ga en a.add y f a.out.length k s hr1 (by omega) (by omega)) (by repeat constructor) ?_; intro z)
  refine .go ?_; repeat constructor
  refine EL.move rfl rfl rfl ?_
  refine EL.assign rfl rfl rfl ?_
  refine .go ?_; repeat constructor
  exact PX.ret rfl Try.results88 (.cons (.tmp rfl) .nil) (fun w hs => ⟨z, rfl, hs.ent (.i (by repeat constructor))⟩)
end Go.Proofs.Ytblpgpgbnlhjlaa
