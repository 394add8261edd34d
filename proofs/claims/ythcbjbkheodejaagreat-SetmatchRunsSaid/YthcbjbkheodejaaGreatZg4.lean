/- Texts of this claim, bundled. -/
import Derived.Test.YthcbjbkheodejaaGreatZg3
set_option linter.unusedVariables false
set_option linter.unusedSimpArgs false
namespace Go.Proofs.YthcbjbkheodejaaGreat
open Go Go.RowKit Sl
set_option maxRecDepth 100000
set_option maxHeartbeats 8000000
attribute [local irreducible] ES EL PX wps
theorem am0_room {n : Nat} (h : n ≤ 131072) : AM.Room ⟨[], []⟩ n := ⟨by simp; exact h, rfl, by simp, by simp, (by intro l hl; cases hl), (by intro l hl; cases hl)⟩
abbrev av0 : AV := ⟨none, 0, none, 0, [], []⟩
theorem Sat.auto0 {w0 w : World} {B ga : Nat} {R : List HA} (h : Sat w0 B (HA.blk ga (.cells #[.slice none 0 0, .slice none 0 0, Iv 0] 121) :: R) w) : Sat w0 B (AP ga av0 0 :: R) w := by
  have h1 := (h.nilRow 178 1).nilRow 178 1
  have h2 : Sat w0 B ([HA.edg [], HA.edg []] ++ (HA.row (.slice none 0 0) 178 1 0 [] :: HA.row (.slice none 0 0) 178 1 0 [] :: HA.blk ga (.cells #[.slice none 0 0, .slice none 0 0, Iv 0] 121) :: R)) w :=
    Sat.rules (Hs := []) h1 (by simp [fps, HA.edg]) (fun _ Y hY => by
      simp only [List.mem_cons, List.not_mem_nil, or_false, or_self] at hY
      subst hY
      intro p hp; cases hp)
  exact Sat.pack (Sat.ent (H' := AH ga av0 0 ++ R) h2 (.i (by repeat constructor)))
theorem make_c (ks : List RE) (hf : ∀ k ∈ ks, k.fine) (hl : ks.length ≤ 1024) (hc : costL ks + 1 ≤ 131072) (ad : Option Addr) (cap : Nat) (w : World) (hn : ∀ i k, ks[i]? = some k → ∃ g o, ad = some ⟨g, o, none⟩ ∧ NodeRd w w.heap.size g (o + i * 9) k) :
    Pure Tryz.prog 23 #[.slice ad ks.length cap] (fun x : Nat × AX (makeM ks).1 => Pv x.1 0) (fun x => [AP x.1 x.2.1 (makeM ks).2]) w := by
  have hm : makeM ks = layL ks (AM.add ⟨[], []⟩) 0 := rfl
  have h0 : AM.Room ⟨[], []⟩ (costL ks + 1) := am0_room hc
  have h1 := add_room h0
  generalize hX : makeM ks = X at *
  obtain ⟨XA, xe⟩ := X
  refine calls_of_ES TB Tryz.func23 rfl _ Tryz.ntmps23 rfl (Sat.start w) ?_; refine .go ?_; (repeat constructor); refine .as_ ?_; refine .go ?_; (repeat constructor); refine EL.buildZ rfl rfl rfl rfl rfl ?_; (refine .bx ?_; intro g7); refine .as_ ?_; refine .go ?_; (repeat constructor); refine EL.imp (H' := AP g7 av0 0 :: []) (fun w hs => Sat.auto0 (hs.ent (.i (by repeat constructor)))) ?_; refine .go ?_; (repeat constructor); refine .mv ?_; (refine EL.callM rfl rfl rfl ent41 rfl (nfaAdd_p g7 0 ⟨[], []⟩ ⟨av0, ⟨rfl, rfl⟩⟩ (h0.less (by omega))) (by repeat constructor) ?_; intro y); refine .as_ ?_; refine .go ?_; (repeat constructor); refine .go ?_; (repeat constructor); refine .mv ?_; refine .lL ?_; refine .mv ?_; refine .go ?_; repeat constructor
  refine ES.loop (σ := LS) (fun s => s.i ≤ ks.length ∧ layL (ks.drop s.i) s.b s.q = (XA, xe) ∧ s.q < s.b.out.length ∧ s.b.Room (costL (ks.drop s.i))) (fun s => [(0, .slice ad ks.length cap), (3, Pv g7 0), (4, Iv (s.q : Nat)), (11, Iv (ks.length : Nat)), (12, Iv (s.i : Nat))])
    (fun s => AP g7 s.x.1 0 :: []) (fun s => ks.length - s.i) ⟨0, _, 0, y⟩ ⟨Nat.zero_le _, hm.symm, by rw [add_len]; simp, h1⟩ ⟨rfl, rfl, rfl, rfl, rfl, trivial⟩ (.i (by repeat constructor)) ?_
  rintro ⟨i, b, q, z⟩ ⟨hi1, hgo, hq, hroom⟩
  dsimp only at hi1 hgo hq hroom ⊢
  refine .go ?_; (repeat constructor); refine .ls ?_; refine .go ?_; repeat constructor
  refine ES.condD rfl (fun hlt => ?_) (fun hge => ?_)
  · have hlt' : i < ks.length := by omega
    obtain ⟨k, hki⟩ : ∃ k, ks[i]? = some k := ⟨_, List.getElem?_eq_getElem hlt'⟩
    have hmem := List.mem_of_getElem? hki
    obtain ⟨g, o, rfl, hnk⟩ := hn i k hki
    rw [List.drop_eq_getElem_cons hlt', show ks[i] = k from (List.getElem?_eq_some_iff.1 hki).2] at hgo hroom
    rw [costL] at hroom
    rw [layL] at hgo
    have hnext := (lay_room k).room b q _ hroom hq
    refine .go ?_; (repeat constructor); refine .mv ?_; refine .as_ ?_; refine .go ?_; (repeat constructor); refine .mv ?_; refine .mv ?_; refine .mv ?_; refine EL.indexAddrL rfl rfl rfl rfl rfl rfl rfl (by omega) ?_; refine .mv ?_; (refine EL.callMw rfl rfl rfl ent42 rfl (lay_c w w.heap.size k (hf k hmem) g (o + i * 9) hnk g7 0 b z q hq (hroom.less (by omega))) (by repeat constructor) ?_; intro u); refine .as_ ?_; refine .go ?_; (repeat constructor); refine .a1 ?_; refine .mv ?_; refine .go ?_; repeat constructor
    exact .ly ⟨i + 1, (layM k b q).1, (layM k b q).2, u⟩ ⟨hlt', hgo, hnext.2.1, hnext.1⟩ (by simp only; omega)
  · obtain rfl : i = ks.length := by omega
    rw [List.drop_length, layL] at hgo
    cases hgo
    refine .go ?_; repeat constructor
    refine EL.imp (H' := AH g7 z.1 0) (fun w hs => (Sat.unpack (R := []) hs).ent (.i (by rw [List.append_nil]; exact .refl _))) ?_
    refine .go ?_; (repeat constructor); refine .mv ?_; refine .mv ?_; refine .nc ?_; refine .fa ?_; refine .sb ?_; refine .go ?_; (repeat constructor); refine .mv ?_; refine .as_ ?_; refine .go ?_; repeat constructor
    refine PX.ret rfl Tryz.results23 (.cons (.tmp rfl) .nil) (fun w hs => ⟨(g7, z), rfl, ?_⟩)
    exact Sat.pack (R := []) (by rw [List.append_nil]; exact hs.ent (.i (by repeat constructor)))
end Go.Proofs.YthcbjbkheodejaaGreat
namespace Go.Proofs.YthcbjbkheodejaaGreat
open Go Go.RowKit Sl
set_option maxRecDepth 100000
set_option maxHeartbeats 8000000
attribute [local irreducible] ES EL PX wps
def prC (p : Nat × Nat) : List Value := [Iv (p.1 : Nat), Iv (p.2 : Nat)]
def prsC (l : List (Nat × Nat)) : List Value := l.flatMap prC
theorem prsC_len : ∀ l : List (Nat × Nat), (prsC l).length = l.length * 2
  | [] => rfl
  | p :: l => by
    have := prsC_len l
    simp only [prsC, List.flatMap_cons, List.length_append, List.length_cons] at this ⊢
    rw [this]; simp only [prC, List.length_cons, List.length_nil]; omega
theorem prsC_snoc (l : List (Nat × Nat)) (p : Nat × Nat) : prsC (l ++ [p]) = prsC l ++ prC p := by simp [prsC]
theorem edsC_get : ∀ (es : List Ed) (i : Nat) (e : Ed), es[i]? = some e → ∀ j u, (edC e)[j]? = some u → (edsC es)[i * 6 + j]? = some u
  | [], i, e, h, _, _, _ => by simp at h
  | e' :: es, 0, e, h, j, u, hj => by
    simp only [List.getElem?_cons_zero, Option.some.injEq] at h
    subst h
    have hlt := (List.getElem?_eq_some_iff.1 hj).1
    rw [Nat.zero_mul, Nat.zero_add]
    show (edC e' ++ edsC es)[j]? = some u
    rw [List.getElem?_append_left hlt]; exact hj
  | e' :: es, i + 1, e, h, j, u, hj => by
    simp only [List.getElem?_cons_succ] at h
    have ih := edsC_get es i e h j u hj
    show (edC e' ++ edsC es)[(i + 1) * 6 + j]? = some u
    rw [List.getElem?_append_right (by simp only [edC, List.length_cons, List.length_nil]; omega)]
    rw [show (i + 1) * 6 + j - (edC e').length = i * 6 + j by simp only [edC, List.length_cons, List.length_nil]; omega]
    exact ih
abbrev WB (gs : Nat) (s : List UInt8) (st : Nat) (rest : List Value) (ty : TypeId) : HA := HA.blk gs (.cells (Sv s :: Iv (st : Nat) :: rest).toArray ty)
theorem wb_set (s : List UInt8) (a : Value) (b : Nat) (rest : List Value) (ty : TypeId) : Obj.cells ((Sv s :: a :: rest).toArray.setIfInBounds 1 (Iv (b : Nat))) ty (0, 0) = Obj.cells (Sv s :: Iv (b : Nat) :: rest).toArray ty (0, 0) := by simp
abbrev BR (g n : Nat) (l : List Bool) : HA := HA.row (.slice (some ⟨g, 0, none⟩) n n) 4 1 n (l.map Value.bool)
abbrev TR (ad : Option Addr) (cap : Nat) (l : List (Nat × Nat)) : HA := HA.row (.slice ad l.length cap) 154 2 l.length (prsC l)
structure FL where
  f : Nat
  st : FS
  ad : Option Addr
  cap : Nat
theorem blk_sub {w : World} {g off e : Nat} {cs : Array Value} {vs : List Value} (h : w.heap[g]? = some (.cells cs e (0, 0))) (hv : (cs.toList.drop off).take vs.length = vs) : ∀ j u, vs[j]? = some u → w.cell? ((⟨g, off, none⟩ : Addr).add j) = some u := fun j u hj => by
  rw [add_n, blk_cell h]
  rw [← hv, List.getElem?_take] at hj
  split at hj
  · rw [List.getElem?_drop] at hj
    simpa using hj
  · cases hj
theorem flood_c (gs : Nat) (s : List UInt8) (hs : s.length ≤ 1024) (st0 : Nat) (hst0 : st0 ≤ 1152921504606846976) (rest : List Value) (ty : TypeId) (es : List (List Ed)) (hok : EdsOk es) (hN : es.length ≤ 131072) (hrow : ∀ l ∈ es, l.length ≤ 1048576)
    (ps : List EP) (hps : ps.map Prod.snd = es) (oad : Option Addr) (ocap : Nat) (x0 : Nat × Nat) (h1 : x0.1 < es.length) (h2 : x0.2 ≤ s.length) (goal : Nat) (fwd : Bool) :
    Mut Tryz.prog 62 #[Pv gs 0, .slice oad ps.length ocap, .agg #[Iv (x0.1 : Nat), Iv (x0.2 : Nat)], Iv (goal : Nat), .bool fwd] [WB gs s st0 rest ty, OR oad ocap ps, HA.edg ps]
      (fun g : Nat => .slice (some ⟨g, 0, none⟩) (s.length + 1) (s.length + 1)) (fun g => [BR g (s.length + 1) (floodM es s x0 goal fwd st0).marks, WB gs s (floodM es s x0 goal fwd st0).steps rest ty, OR oad ocap ps, HA.edg ps]) := by
  intro w0 B R w h
  replace h : Sat w0 B (WB gs s st0 rest ty :: OR oad ocap ps :: HA.edg ps :: R) w := h
  have hpl : ps.length = es.length := by rw [← hps, List.length_map]
  have hrows : ∀ p ∈ ps, ∃ ad cap, p.1 = .slice ad p.2.length cap := fun p hp => row_val ((h.all (HA.edg ps) (by simp) : (HA.edg ps).holds w) p hp)
  obtain ⟨og, rfl⟩ := (row_form (h.all (OR oad ocap ps) (by simp))).2.2.2.2 (by omega)
  have hmu0 := fs0_ok h1 h2 st0
  have hidx := idx_lt h1 h2
  have hbig : es.length * (s.length + 1) ≤ 131072 * 1025 := Nat.mul_le_mul hN (by omega)
  obtain ⟨F0, hF0⟩ : ∃ F0, F0 = es.length * (s.length + 1) := ⟨_, rfl⟩
  obtain ⟨r, hr⟩ : ∃ r, r = floodM es s x0 goal fwd st0 := ⟨_, rfl⟩
  have hgo0 : floodGo es s goal fwd F0 (fs0 es.length s.length x0 st0) = r := by rw [hr, hF0]; rfl
  rw [← hr]
  rw [← hF0] at hidx hbig hmu0
  obtain ⟨n, hn⟩ : ∃ n, n = s.length := ⟨_, rfl⟩
  refine calls_of_ES TB Tryz.func62 rfl _ Tryz.ntmps62 rfl h ?_; refine .gr ?_; (repeat constructor); (refine .bx ?_; intro g7); refine .as_ ?_; refine .gr ?_; (repeat constructor); refine .mv ?_; refine .nc ?_; refine .fa ?_; refine .lb ?_; refine .lS ?_; refine .as_ ?_; refine .gr ?_; (repeat constructor); refine .gr ?_; (repeat constructor); refine .mv ?_; refine .a1 ?_
  (refine EL.makeSlice (n := s.length + 1) rfl rfl rfl rfl rfl rfl (by show 1 * (s.length + 1) ≤ _; omega) (by unfold maxLen; omega) ?_; intro g28; refine EL.rowEq (v := .slice (some ⟨g28, 0, none⟩) (s.length + 1) (s.length + 1)) (by repeat constructor) ((made1 _ _).trans (List.map_replicate (f := Value.bool) (a := false)).symm) ?_)
  refine .as_ ?_; refine .gr ?_; (repeat constructor); refine .gr ?_; (repeat constructor); refine .mv ?_; refine .lL ?_; refine .mv ?_; refine .a1 ?_
  (refine EL.mulN (m := ps.length) rfl rfl rfl rfl rfl (by rw [hpl, ← hF0]; omega) ?_; refine EL.rew (d := 33) (v' := Iv (F0 : Nat)) rfl (by rw [hpl, ← hF0]) ?_)
  (refine EL.makeSlice (n := F0) rfl rfl rfl rfl rfl rfl (by show 1 * F0 ≤ _; omega) (by unfold maxLen; omega) ?_; intro g34; refine EL.rowEq (v := .slice (some ⟨g34, 0, none⟩) F0 F0) (by repeat constructor) ((made1 _ _).trans (List.map_replicate (f := Value.bool) (a := false)).symm) ?_)
  refine .as_ ?_; refine .gr ?_; (repeat constructor); refine .gr ?_; (repeat constructor); refine .mv ?_; refine .fa ?_; refine .lb ?_; refine .mv ?_; refine .a1 ?_; refine EL.mulN (m := x0.1) rfl rfl rfl rfl rfl (by omega) ?_; refine .fa ?_; refine .lb ?_; refine EL.addN rfl rfl rfl rfl rfl (by omega) ?_; refine .i1 ?_
  (refine EL.storeR rfl rfl rfl rfl rfl rfl (by repeat constructor) (by simp; omega) ?_; refine EL.rowEq (v := .slice (some ⟨g34, 0, none⟩) F0 F0) (by repeat constructor) (List.map_set (f := Value.bool) (a := true)).symm ?_)
  refine .gr ?_; (repeat constructor); refine .gr ?_; (repeat constructor); refine .lg ?_; (refine .b1 ?_; intro b46); refine .as_ ?_; refine .gr ?_; repeat constructor
  refine ES.loop (σ := FL) (fun z => z.st.Ok es.length s.length ∧ z.st.mu ≤ z.f ∧ z.f ≤ F0 ∧ floodGo es s goal fwd z.f z.st = r ∧ z.st.steps ≤ st0 + (F0 - z.f) * 1048576)
    (fun z => [(0, Pv gs 0), (1, .slice (some ⟨og, 0, none⟩) ps.length ocap), (3, Iv (goal : Nat)), (4, .bool fwd), (11, Iv (s.length : Nat)), (12, .slice (some ⟨g28, 0, none⟩) (s.length + 1) (s.length + 1)), (13, .slice (some ⟨g34, 0, none⟩) F0 F0), (14, .slice z.ad z.st.todo.length z.cap)])
    (fun z => WB gs s z.st.steps rest ty :: BR g28 (s.length + 1) z.st.marks :: BR g34 F0 z.st.seen :: TR z.ad z.cap z.st.todo :: OR (some ⟨og, 0, none⟩) ocap ps :: HA.edg ps :: R) (fun z => z.f) ⟨F0, fs0 es.length s.length x0 st0, some ⟨b46, 0, none⟩, 1⟩
    ⟨hmu0.1, by rw [hmu0.2]; exact Nat.le_refl _, Nat.le_refl _, hgo0, by simp [fs0]⟩ ⟨rfl, rfl, rfl, rfl, rfl, rfl, rfl, rfl, trivial⟩ (by simp only [fs0, hF0]; exact (.i (by repeat constructor))) ?_
  rintro ⟨f, st, tad, tcap⟩ ⟨zok, zmu, zf, zgo, zst⟩
  dsimp only at zok zmu zf zgo zst ⊢
  refine .gr ?_; (repeat constructor); refine .mv ?_; refine .lL ?_; refine .gt_ ?_; refine .gr ?_; repeat constructor
  refine ES.condD rfl (fun hpos => ?_) (fun hnone => ?_)
  rotate_left
  · have hnil : st.todo = [] := List.eq_nil_of_length_eq_zero (by omega)
    have hend : st = r := by
      rw [← zgo]
      cases f with
      | zero => rfl
      | succ f => rw [floodGo, hnil]; rfl
    rw [hend]
    refine .gr ?_; (repeat constructor); refine .mv ?_; refine .as_ ?_; refine .gr ?_; repeat constructor
    exact PX.ret rfl Tryz.results62 (.cons (.tmp rfl) .nil) (fun w hs => ⟨g28, rfl, hs.ent (.i (by repeat constructor))⟩)
  obtain ⟨p, hp⟩ : ∃ p, st.todo.getLast? = some p := ⟨_, List.getLast?_eq_some_getLast (by intro e; rw [e] at hpos; simp at hpos)⟩
  obtain ⟨pok, pmu, pq, pa⟩ := pop_ok (goal := goal) zok hp
  have hsplit := last_split hp
  obtain ⟨f, rfl⟩ : ∃ f', f = f' + 1 := ⟨f - 1, by simp only [FS.mu] at zmu; omega⟩
  rw [floodGo, hp] at zgo
  simp only at zgo
  obtain ⟨td, htd⟩ : ∃ td, td = st.todo.dropLast := ⟨_, rfl⟩
  have hpm : popM goal st p = ⟨if p.1 = goal then st.marks.set p.2 true else st.marks, st.seen, td, st.steps⟩ := by rw [htd]; rfl
  rw [← htd] at hsplit
  have hlen : st.todo.length = td.length + 1 := by rw [hsplit]; simp
  have htl : td.length + 1 ≤ 131072 * 1025 := by simp only [FS.mu] at zmu; omega
  refine ES.rowForm (e := 154) (sz := 2) (n := st.todo.length) (cs := prsC st.todo) (ad := tad) (len := st.todo.length) (cap := tcap) (by repeat constructor) (fun hf => ?_)
  obtain ⟨tg, rfl⟩ := hf.2.2.2.2 (by omega)
  have hcap := hf.2.1
  have hpl2 := prsC_len td
  have hcells : prsC st.todo = prsC td ++ prC p := by rw [hsplit, prsC_snoc]
  obtain ⟨pp, hpp⟩ : ∃ pp, ps[p.1]? = some pp := ⟨_, List.getElem?_eq_getElem (by rw [hpl]; exact pq)⟩
  obtain ⟨iad, icap, hpv⟩ := hrows pp (List.mem_of_getElem? hpp)
  have hpe : es.getD p.1 [] = pp.2 := by rw [← hps, List.getD_eq_getElem?_getD, List.getElem?_map, hpp]; rfl
  have hfst : (ps.map Prod.fst)[p.1]? = some (.slice iad pp.2.length icap) := by rw [List.getElem?_map, hpp, ← hpv]; rfl
  have hmem2 : pp.2 ∈ es := by rw [← hps]; exact List.mem_map_of_mem (List.mem_of_getElem? hpp)
  have hplen := hrow pp.2 hmem2
  have heok : ∀ e ∈ pp.2, e.to < es.length ∧ e.kind ≤ 3 := hok pp.2 hmem2
  have hpin : pp ∈ ps := List.mem_of_getElem? hpp
  rw [hpe] at zgo
  unfold TR
  rw [hlen, hcells]
  refine .gr ?_; (repeat constructor); refine .mv ?_; refine .mv ?_; refine .lL ?_; refine EL.sub1 rfl rfl rfl rfl (by omega) (by omega) ?_; refine EL.indexAddrL rfl rfl rfl rfl rfl rfl rfl (by omega) ?_
  refine EL.ofRV (RV.loadRA (prC p) rfl rfl rfl rfl (by repeat constructor) (by show ((prsC td ++ prC p).drop (0 + (td.length + 1 - 1) * 2)).take 2 = prC p; rw [show 0 + (td.length + 1 - 1) * 2 = (prsC td).length by omega, List.drop_left]; rfl)) rfl rfl rfl (by intro c h; cases h) ?_
  (refine .al ?_; intro g15); refine .sa ?_; refine .gr ?_; (repeat constructor); refine .gr ?_; (repeat constructor); refine .mv ?_; refine .mv ?_; refine .lL ?_; refine EL.sub1 rfl rfl rfl rfl (by omega) (by omega) ?_
  refine EL.ofRV (RV.sliceHi (hi := td.length) rfl rfl rfl rfl rfl (by omega)) rfl rfl rfl (by intro c h; cases h) ?_
  refine .as_ ?_; refine .gr ?_; (repeat constructor); refine EL.imp (H' := HA.blk g15 (.cells #[Iv (p.1 : Nat), Iv (p.2 : Nat)] 154) :: WB gs s st.steps rest ty :: BR g28 (s.length + 1) st.marks :: BR g34 F0 st.seen :: TR (some ⟨tg, 0, none⟩) tcap td :: OR (some ⟨og, 0, none⟩) ocap ps :: HA.edg ps :: R) (fun w hs => ?_) ?_
  · have k1 := Sat.cutRow (m := td.length) (hs.ent (H' := HA.row (.slice (some ⟨tg, 0, none⟩) (td.length + 1) tcap) 154 2 (td.length + 1) (prsC td ++ prC p) :: HA.blk g15 (.cells #[Iv (p.1 : Nat), Iv (p.2 : Nat)] 154) :: WB gs s st.steps rest ty :: BR g28 (s.length + 1) st.marks :: BR g34 F0 st.seen :: OR (some ⟨og, 0, none⟩) ocap ps :: HA.edg ps :: R) (.i (by repeat constructor))) (by omega)
    rw [← hpl2, List.take_left] at k1
    exact k1.ent (.i (by repeat constructor))
  refine .gr ?_; (repeat constructor); refine .fa ?_; refine .lb ?_; refine .mv ?_; refine .ei ?_; refine .gr ?_; repeat constructor
  refine ES.cutC (X := Unit) (fun _ => [(0, Pv gs 0), (1, .slice (some ⟨og, 0, none⟩) ps.length ocap), (3, Iv (goal : Nat)), (4, .bool fwd), (11, Iv (s.length : Nat)), (12, .slice (some ⟨g28, 0, none⟩) (s.length + 1) (s.length + 1)), (13, .slice (some ⟨g34, 0, none⟩) F0 F0), (14, .slice (some ⟨tg, 0, none⟩) td.length tcap), (15, Pv g15 0)])
    (fun _ => HA.blk g15 (.cells #[Iv (p.1 : Nat), Iv (p.2 : Nat)] 154) :: WB gs s st.steps rest ty :: BR g28 (s.length + 1) (popM goal st p).marks :: BR g34 F0 st.seen :: TR (some ⟨tg, 0, none⟩) tcap td :: OR (some ⟨og, 0, none⟩) ocap ps :: HA.edg ps :: R) ?_ (fun _ => ?_)
  · refine ES.condD rfl (fun hg => ?_) (fun hg => ?_)
    · have hm : (popM goal st p).marks = st.marks.set p.2 true := by rw [hpm]; exact if_pos (by omega)
      rw [hm]
      refine .gr ?_; (repeat constructor); refine .mv ?_; refine .fa ?_; refine .lb ?_; refine .i1 ?_
      (refine EL.storeR rfl rfl rfl rfl rfl rfl (by repeat constructor) (by rw [List.length_map, zok.marks]; omega) ?_; refine EL.rowEq (v := .slice (some ⟨g28, 0, none⟩) (s.length + 1) (s.length + 1)) (by repeat constructor) (List.map_set (f := Value.bool) (a := true)).symm ?_)
      refine .gr ?_; repeat constructor
      exact .cy ()
    · have hm : (popM goal st p).marks = st.marks := by rw [hpm]; exact if_neg (by omega)
      rw [hm]
      refine .gr ?_; repeat constructor
      exact .cy ()
  generalize hM : (popM goal st p).marks = mk
  have hpm2 : popM goal st p = ⟨mk, st.seen, td, st.steps⟩ := by rw [← hM, hpm]
  rw [hpm2] at pok pmu zgo
  have hed := edges_ok (fwd := fwd) pa pp.2 pok (fun e he => (heok e he).1)
  have hcs := cnts_le s.length fwd p.2 pp.2
  generalize hX : pp.2.foldl (edgeM s fwd p.2) ⟨mk, st.seen, td, st.steps⟩ = stX at zgo hed
  refine .gr ?_; (repeat constructor); refine .mv ?_; refine .fa ?_; refine .lb ?_; refine .i1 ?_; refine EL.loadR rfl rfl rfl rfl rfl (by repeat constructor) hfst ?_; refine .lL ?_; refine .mv ?_; refine .gr ?_; repeat constructor
  refine ES.loop (σ := FL) (fun z => z.f ≤ pp.2.length ∧ (pp.2.drop z.f).foldl (edgeM s fwd p.2) z.st = stX ∧ z.st.Ok es.length s.length ∧ z.st.mu ≤ f ∧ z.st.steps ≤ st.steps + z.f)
    (fun z => [(0, Pv gs 0), (1, .slice (some ⟨og, 0, none⟩) ps.length ocap), (3, Iv (goal : Nat)), (4, .bool fwd), (11, Iv (s.length : Nat)), (12, .slice (some ⟨g28, 0, none⟩) (s.length + 1) (s.length + 1)), (13, .slice (some ⟨g34, 0, none⟩) F0 F0), (14, .slice z.ad z.st.todo.length z.cap), (15, Pv g15 0), (73, .slice iad pp.2.length icap), (74, Iv (pp.2.length : Nat)), (75, Iv (z.f : Nat))])
    (fun z => HA.blk g15 (.cells #[Iv (p.1 : Nat), Iv (p.2 : Nat)] 154) :: WB gs s z.st.steps rest ty :: BR g28 (s.length + 1) z.st.marks :: BR g34 F0 z.st.seen :: TR z.ad z.cap z.st.todo :: OR (some ⟨og, 0, none⟩) ocap ps :: HA.edg ps :: R) (fun z => pp.2.length - z.f)
    ⟨0, ⟨mk, st.seen, td, st.steps⟩, some ⟨tg, 0, none⟩, tcap⟩ ⟨Nat.zero_le _, hX, pok, by dsimp only; omega, Nat.le_refl _⟩ ⟨rfl, rfl, rfl, rfl, rfl, rfl, rfl, rfl, rfl, rfl, rfl, rfl, trivial⟩ (.i (by repeat constructor)) ?_
  rintro ⟨i, sj, jad, jcap⟩ ⟨ji, jgo, jok, jmu, jst⟩
  dsimp only at ji jgo jok jmu jst ⊢
  refine .gr ?_; (repeat constructor); refine .ls ?_; refine .gr ?_; repeat constructor
  refine ES.condD rfl (fun hlt => ?_) (fun hge => ?_)
  rotate_left
  · obtain rfl : i = pp.2.length := by omega
    rw [List.drop_length] at jgo
    have jgo : sj = stX := jgo
    subst jgo
    refine .gr ?_; repeat constructor
    exact .ly ⟨f, sj, jad, jcap⟩ ⟨jok, jmu, by dsimp only; omega, zgo, by dsimp only; rw [show F0 - f = F0 - (f + 1) + 1 by omega]; omega⟩ (by simp only; omega)
  have hlt' : i < pp.2.length := by omega
  obtain ⟨e, hei⟩ : ∃ e, pp.2[i]? = some e := ⟨_, List.getElem?_eq_getElem hlt'⟩
  have hemem := List.mem_of_getElem? hei
  obtain ⟨eto, ekind⟩ := heok e hemem
  rw [List.drop_eq_getElem_cons hlt', show pp.2[i] = e from (List.getElem?_eq_some_iff.1 hei).2, List.foldl_cons] at jgo
  have hstep := edge_ok (fwd := fwd) jok pa eto
  have hcl := cnt_le s.length fwd e p.2
  have hbig2 : e.to * (s.length + 1) + s.length < F0 := by rw [hF0]; exact idx_lt eto (Nat.le_refl _)
  refine ES.know (P := ∃ ig, iad = some ⟨ig, 0, none⟩) (fun w hs => ?_) (fun hig => ?_)
  · have hr := ((hs.all (HA.edg ps) (by simp) : (HA.edg ps).holds w) pp hpin)
    rw [hpv] at hr
    exact (row_form hr).2.2.2.2 (by omega)
  obtain ⟨ig, rfl⟩ := hig
  have hrd : ∀ (w : World), (HA.edg ps).holds w → ∀ j u, (edC e)[j]? = some u → w.cell? ((⟨ig, 0 + i * 6, none⟩ : Addr).add j) = some u := fun w hw j u hj => by
    have hr := hw pp hpin
    rw [hpv] at hr
    rw [add_n]
    exact row_cell hr _ u (by rw [Nat.zero_add]; exact edsC_get pp.2 i e hei j u hj)
  refine .gr ?_; (repeat constructor); refine EL.indexAddrL rfl rfl rfl rfl rfl rfl rfl (by omega) ?_; refine EL.loadAgg (cs := edC e) rfl rfl rfl rfl rfl rfl (fun w hs => hrd w (hs.all (HA.edg ps) (by simp))) ?_; (refine .al ?_; intro g17); refine .sa ?_; refine .gr ?_; (repeat constructor); refine .gr ?_; (repeat constructor); refine .fa ?_; refine .lb ?_; refine .as_ ?_; refine .gr ?_; (repeat constructor); refine .fa ?_; refine .lb ?_
  repeat (first | apply EL.nil | apply ES.seq | apply ES.skip)
  refine ES.cutE (X := { b : Nat // placeM s fwd e p.2 = some b }) (Y := PLift (placeM s fwd e p.2 = none)) 3 (fun b => [(0, Pv gs 0), (1, .slice (some ⟨og, 0, none⟩) ps.length ocap), (3, Iv (goal : Nat)), (4, .bool fwd), (11, Iv (s.length : Nat)), (12, .slice (some ⟨g28, 0, none⟩) (s.length + 1) (s.length + 1)), (13, .slice (some ⟨g34, 0, none⟩) F0 F0), (14, .slice jad sj.todo.length jcap), (15, Pv g15 0), (17, Pv g17 0), (18, Iv (b.1 : Nat)), (73, .slice (some ⟨ig, 0, none⟩) pp.2.length icap), (74, Iv (pp.2.length : Nat)), (75, Iv (i : Nat))]) (fun _ => HA.blk g17 (.cells (edC e).toArray 180) :: HA.blk g15 (.cells #[Iv (p.1 : Nat), Iv (p.2 : Nat)] 154) :: WB gs s (sj.steps + cntM s.length fwd e p.2) rest ty :: BR g28 (s.length + 1) sj.marks :: BR g34 F0 sj.seen :: TR jad jcap sj.todo :: OR (some ⟨og, 0, none⟩) ocap ps :: HA.edg ps :: R) (fun _ => [(0, Pv gs 0), (1, .slice (some ⟨og, 0, none⟩) ps.length ocap), (3, Iv (goal : Nat)), (4, .bool fwd), (11, Iv (s.length : Nat)), (12, .slice (some ⟨g28, 0, none⟩) (s.length + 1) (s.length + 1)), (13, .slice (some ⟨g34, 0, none⟩) F0 F0), (14, .slice jad sj.todo.length jcap), (15, Pv g15 0), (73, .slice (some ⟨ig, 0, none⟩) pp.2.length icap), (74, Iv (pp.2.length : Nat)), (75, Iv (i : Nat))]) (fun _ => HA.blk g17 (.cells (edC e).toArray 180) :: HA.blk g15 (.cells #[Iv (p.1 : Nat), Iv (p.2 : Nat)] 154) :: WB gs s (sj.steps + cntM s.length fwd e p.2) rest ty :: BR g28 (s.length + 1) sj.marks :: BR g34 F0 sj.seen :: TR jad jcap sj.todo :: OR (some ⟨og, 0, none⟩) ocap ps :: HA.edg ps :: R) ?_ (fun b => ?_) (fun y => ?_)
  · refine .gr ?_; (repeat constructor); refine .ei ?_; refine .as_ ?_; refine .gr ?_; repeat constructor
    refine ES.condD rfl (fun k2 => ?_) (fun k2 => ?_)
    · have hk : e.kind = 2 := by have h : ((e.kind : Nat) : Int) = 2 := k2; omega
      have hc0 : cntM s.length fwd e p.2 = 0 := by unfold cntM; rw [if_neg (by omega)]
      have hpl : placeM s fwd e p.2 = if p.2 = 0 then some p.2 else none := by unfold placeM; rw [if_neg (by omega), if_pos hk]
      rw [hc0, Nat.add_zero]
      refine .gr ?_; (repeat constructor); refine .mv ?_; refine .ni ?_; refine .gr ?_; repeat constructor
      refine ES.condN rfl (fun h0 => ?_) (fun h0 => ?_)
      · refine .gr ?_; repeat constructor
        exact PX.cutEx ⟨by rw [hpl, if_neg (by omega)]⟩ ⟨rfl, rfl, rfl, rfl, rfl, rfl, rfl, rfl, rfl, rfl, rfl, rfl, trivial⟩ (.i (by repeat constructor))
      · refine .gr ?_; repeat constructor
        exact PX.cutEn ⟨p.2, by rw [hpl, if_pos (by omega)]⟩ ⟨rfl, rfl, rfl, rfl, rfl, rfl, rfl, rfl, rfl, rfl, rfl, rfl, rfl, rfl, trivial⟩ (.i (by repeat constructor))
    have hk2 : ¬ e.kind = 2 := by have h : ¬ ((e.kind : Nat) : Int) = 2 := k2; omega
    refine .gr ?_; (repeat constructor); refine .ei ?_; refine .as_ ?_; refine .gr ?_; repeat constructor
    refine ES.condD rfl (fun k3 => ?_) (fun k3 => ?_)
    · have hk : e.kind = 3 := by have h : ((e.kind : Nat) : Int) = 3 := k3; omega
      have hc0 : cntM s.length fwd e p.2 = 0 := by unfold cntM; rw [if_neg (by omega)]
      have hpl : placeM s fwd e p.2 = if p.2 = s.length then some p.2 else none := by unfold placeM; rw [if_neg (by omega), if_neg (by omega), if_pos hk]
      rw [hc0, Nat.add_zero]
      refine .gr ?_; (repeat constructor); refine .mv ?_; refine .mv ?_; refine .ni ?_; refine .gr ?_; repeat constructor
      refine ES.condN rfl (fun h0 => ?_) (fun h0 => ?_)
      · refine .gr ?_; repeat constructor
        exact PX.cutEx ⟨by rw [hpl, if_neg (by omega)]⟩ ⟨rfl, rfl, rfl, rfl, rfl, rfl, rfl, rfl, rfl, rfl, rfl, rfl, trivial⟩ (.i (by repeat constructor))
      · refine .gr ?_; repeat constructor
        exact PX.cutEn ⟨p.2, by rw [hpl, if_pos (by omega)]⟩ ⟨rfl, rfl, rfl, rfl, rfl, rfl, rfl, rfl, rfl, rfl, rfl, rfl, rfl, rfl, trivial⟩ (.i (by repeat constructor))
    have hk3 : ¬ e.kind = 3 := by have h : ¬ ((e.kind : Nat) : Int) = 3 := k3; omega
    refine .gr ?_; (repeat constructor); refine .ei ?_; refine .as_ ?_; refine .gr ?_; repeat constructor
    refine ES.condD rfl (fun k1 => ?_) (fun k1 => ?_)
    rotate_left
    · have hk1 : ¬ e.kind = 1 := by have h : ¬ ((e.kind : Nat) : Int) = 1 := k1; omega
      have hc0 : cntM s.length fwd e p.2 = 0 := by unfold cntM; rw [if_neg (by omega)]
      rw [hc0, Nat.add_zero]
      refine .gr ?_; repeat constructor
      exact PX.cutEn ⟨p.2, by unfold placeM; rw [if_neg hk1, if_neg hk2, if_neg hk3]⟩ ⟨rfl, rfl, rfl, rfl, rfl, rfl, rfl, rfl, rfl, rfl, rfl, rfl, rfl, rfl, trivial⟩ (.i (by repeat constructor))
    have hk : e.kind = 1 := by have h : ((e.kind : Nat) : Int) = 1 := k1; omega
    have hpl : placeM s fwd e p.2 = if inB s.length fwd p.2 = true ∧ hasS e.set (s.getD (bAt fwd p.2) 0).toNat = true then some (if fwd = true then p.2 + 1 else p.2 - 1) else none := by unfold placeM; rw [if_pos hk]
    obtain ⟨bA, hbA⟩ : ∃ bA : Int, bA = if fwd = true then (p.2 : Int) else (p.2 : Int) - 1 := ⟨_, rfl⟩
    refine .gr ?_; (repeat constructor); refine .mv ?_; refine .as_ ?_; refine .gr ?_; (repeat constructor); refine .mv ?_; refine .nt ?_; refine .gr ?_; repeat constructor
    refine ES.cutC (X := Unit) (fun _ => [(0, Pv gs 0), (1, .slice (some ⟨og, 0, none⟩) ps.length ocap), (3, Iv (goal : Nat)), (4, .bool fwd), (11, Iv (s.length : Nat)), (12, .slice (some ⟨g28, 0, none⟩) (s.length + 1) (s.length + 1)), (13, .slice (some ⟨g34, 0, none⟩) F0 F0), (14, .slice jad sj.todo.length jcap), (15, Pv g15 0), (17, Pv g17 0), (19, Iv bA), (73, .slice (some ⟨ig, 0, none⟩) pp.2.length icap), (74, Iv (pp.2.length : Nat)), (75, Iv (i : Nat))]) (fun _ => HA.blk g17 (.cells (edC e).toArray 180) :: HA.blk g15 (.cells #[Iv (p.1 : Nat), Iv (p.2 : Nat)] 154) :: WB gs s sj.steps rest ty :: BR g28 (s.length + 1) sj.marks :: BR g34 F0 sj.seen :: TR jad jcap sj.todo :: OR (some ⟨og, 0, none⟩) ocap ps :: HA.edg ps :: R) ?_ (fun _ => ?_)
    · refine ES.cond rfl (fun hf => ?_) (fun hf => ?_)
      · have hf' : fwd = false := by simpa using hf
        refine .gr ?_; (repeat constructor); refine .mv ?_; refine EL.sub_ ((p.2 : Int) - 1) rfl rfl rfl rfl (wrap_i64 _ (by omega) (by omega)) ?_; refine .as_ ?_; refine .gr ?_; repeat constructor
        exact .cx () ⟨rfl, rfl, rfl, rfl, rfl, rfl, rfl, rfl, rfl, rfl, getA rfl (congrArg Iv (by rw [hbA, hf']; rfl)), rfl, rfl, rfl, trivial⟩
      · have hf' : fwd = true := by simpa using hf
        refine .gr ?_; repeat constructor
        exact .cx () ⟨rfl, rfl, rfl, rfl, rfl, rfl, rfl, rfl, rfl, rfl, getA rfl (congrArg Iv (by rw [hbA, hf']; rfl)), rfl, rfl, rfl, trivial⟩
    refine .gr ?_; repeat constructor
    refine EL.cutX (X := Unit) (fun _ => [(0, Pv gs 0), (1, .slice (some ⟨og, 0, none⟩) ps.length ocap), (3, Iv (goal : Nat)), (4, .bool fwd), (11, Iv (s.length : Nat)), (12, .slice (some ⟨g28, 0, none⟩) (s.length + 1) (s.length + 1)), (13, .slice (some ⟨g34, 0, none⟩) F0 F0), (14, .slice jad sj.todo.length jcap), (15, Pv g15 0), (17, Pv g17 0), (19, Iv bA), (105, .bool (decide (bA < 0 ∨ (s.length : Int) ≤ bA))), (73, .slice (some ⟨ig, 0, none⟩) pp.2.length icap), (74, Iv (pp.2.length : Nat)), (75, Iv (i : Nat))]) (fun _ => HA.blk g17 (.cells (edC e).toArray 180) :: HA.blk g15 (.cells #[Iv (p.1 : Nat), Iv (p.2 : Nat)] 154) :: WB gs s sj.steps rest ty :: BR g28 (s.length + 1) sj.marks :: BR g34 F0 sj.seen :: TR jad jcap sj.todo :: OR (some ⟨og, 0, none⟩) ocap ps :: HA.edg ps :: R) ?_ (fun _ => ?_)
    · refine .gr ?_; (repeat constructor); refine .mv ?_; refine .ls ?_; refine .mv ?_
      first | refine EL.splitD (d := 101) rfl (fun hp101 => ?_) (fun hp101 => ?_) | refine EL.splitN (d := 101) rfl (fun hp101 => ?_) (fun hp101 => ?_) | refine EL.splitB (d := 101) rfl (fun hp101 => ?_) (fun hp101 => ?_)
      · refine .ps ?_; refine .ps ?_; refine .ps ?_; refine .pt ?_
        exact .dx () ⟨rfl, rfl, rfl, rfl, rfl, rfl, rfl, rfl, rfl, rfl, rfl, getA rfl (congrArg Value.bool (by rw [Bool.eq_iff_iff]; simp only [decide_eq_true_eq, true_iff]; omega)), rfl, rfl, rfl, trivial⟩
      · refine .mv ?_; refine .mv ?_; refine .gq ?_; refine .pf ?_
        exact .dx () ⟨rfl, rfl, rfl, rfl, rfl, rfl, rfl, rfl, rfl, rfl, rfl, getA rfl (congrArg Value.bool (by rw [Bool.eq_iff_iff]; simp only [decide_eq_true_eq, true_iff]; omega)), rfl, rfl, rfl, trivial⟩
    refine ES.condD rfl (fun ho => ?_) (fun ho => ?_)
    · have hin : inB s.length fwd p.2 = false := by
        unfold inB
        cases fwd
        · simp only [Bool.false_eq_true, if_false] at hbA ⊢
          exact decide_eq_false (by omega)
        · simp only [if_true] at hbA ⊢
          exact decide_eq_false (by omega)
      have hc0 : cntM s.length fwd e p.2 = 0 := by unfold cntM; rw [hin, if_neg (by simp)]
      rw [hc0, Nat.add_zero]
      refine .gr ?_; repeat constructor
      exact PX.cutEx ⟨by rw [hpl, hin, if_neg (by simp)]⟩ ⟨rfl, rfl, rfl, rfl, rfl, rfl, rfl, rfl, rfl, rfl, rfl, rfl, trivial⟩ (.i (by repeat constructor))
    obtain ⟨k, hkb⟩ : ∃ k, k = bAt fwd p.2 := ⟨_, rfl⟩
    have hin : inB s.length fwd p.2 = true ∧ bA = (k : Int) ∧ k < s.length := by
      unfold inB
      unfold bAt at hkb
      cases fwd
      · simp only [Bool.false_eq_true, if_false] at hbA hkb ⊢
        exact ⟨decide_eq_true (by omega), by omega, by omega⟩
      · simp only [if_true] at hbA hkb ⊢
        exact ⟨decide_eq_true (by omega), by omega, by omega⟩
    obtain ⟨hin, hbk, hklt⟩ := hin
    have hc1 : cntM s.length fwd e p.2 = 1 := by unfold cntM; rw [hin, if_pos ⟨hk, rfl⟩]
    rw [hin, ← hkb] at hpl
    rw [hc1]
    rw [hbk]
    refine .gr ?_; (repeat constructor); refine .mv ?_; refine .nc ?_; refine .fa ?_; refine .lb ?_; refine .a1 ?_; refine .nc ?_; refine .fa ?_
    (refine EL.storeB rfl rfl rfl rfl rfl rfl (by repeat constructor) (by simp) ?_; refine EL.blkEq (g := gs) (by repeat constructor) (wb_set s _ (sj.steps + 1) rest ty) ?_)
    refine .gr ?_; (repeat constructor); refine .gs ?_; repeat constructor
    refine ES.draw (X := Unit) (fun _ => [(0, Pv gs 0), (1, .slice (some ⟨og, 0, none⟩) ps.length ocap), (3, Iv (goal : Nat)), (4, .bool fwd), (11, Iv (s.length : Nat)), (12, .slice (some ⟨g28, 0, none⟩) (s.length + 1) (s.length + 1)), (13, .slice (some ⟨g34, 0, none⟩) F0 F0), (14, .slice jad sj.todo.length jcap), (15, Pv g15 0), (17, Pv g17 0), (19, Iv (k : Nat)), (122, .bool (!hasS e.set (s.getD k 0).toNat)), (73, .slice (some ⟨ig, 0, none⟩) pp.2.length icap), (74, Iv (pp.2.length : Nat)), (75, Iv (i : Nat))]) (fun _ => HA.blk g17 (.cells (edC e).toArray 180) :: HA.blk g15 (.cells #[Iv (p.1 : Nat), Iv (p.2 : Nat)] 154) :: WB gs s (sj.steps + 1) rest ty :: BR g28 (s.length + 1) sj.marks :: BR g34 F0 sj.seen :: TR jad jcap sj.todo :: OR (some ⟨og, 0, none⟩) ocap ps :: HA.edg ps :: R) (HA.blk g17 (.cells (edC e).toArray 180) :: WB gs s (sj.steps + 1) rest ty :: []) mixed (.i (by repeat constructor)) ?_ (fun _ => ?_)
    · refine .tk 0 rfl (RV.fieldAddr rfl rfl rfl rfl rfl rfl) ?_; refine ED.take 1 rfl (by decide +kernel) CutX.no_panic (by decide +kernel) rfl rfl rfl (RV.loadAgg (cs := [Wv e.set.a, Wv e.set.b, Wv e.set.c, Wv e.set.d]) rfl rfl rfl rfl (fun w hs => blk_sub (hs.all (HA.blk g17 (.cells (edC e).toArray 180)) (by simp)) rfl)) ?_; refine .tk 2 rfl (RV.move rfl) ?_; refine .tk 3 rfl (RV.nilCheck rfl) ?_; refine .tk 4 rfl (RV.fieldAddr rfl rfl rfl rfl rfl rfl) ?_; refine .tk 5 rfl (RV.loadB rfl rfl rfl (by repeat constructor) rfl) ?_; refine .tk 6 rfl (RV.move rfl) ?_; refine .tk 7 rfl (RV.indexSN rfl rfl rfl rfl (by omega)) ?_; refine .ld 8 ?_; refine EL.callP rfl rfl rfl ent84 rfl (has_c e.set (s.getD k 0)) ?_; refine .nx ?_; refine .tk 9 rfl (RV.not rfl) ?_; refine .dn ?_
      exact .cy ()
    refine ES.cond rfl (fun hh => ?_) (fun hh => ?_)
    · have hh' : hasS e.set (s.getD k 0).toNat = false := by simpa using hh
      rw [hh', if_neg (by simp)] at hpl
      refine .gr ?_; repeat constructor
      exact PX.cutEx ⟨hpl⟩ ⟨rfl, rfl, rfl, rfl, rfl, rfl, rfl, rfl, rfl, rfl, rfl, rfl, trivial⟩ (.i (by repeat constructor))
    have hh' : hasS e.set (s.getD k 0).toNat = true := by simpa using hh
    rw [hh', if_pos ⟨rfl, rfl⟩] at hpl
    refine .gr ?_; (repeat constructor); refine .mv ?_; refine .as_ ?_; refine .gr ?_; (repeat constructor); refine .mv ?_; refine .gr ?_; repeat constructor
    refine ES.cond rfl (fun hf => ?_) (fun hf => ?_)
    · rw [if_pos hf] at hpl
      have hk2 : k = p.2 := by rw [hkb]; unfold bAt; exact if_pos hf
      subst hk2
      refine .gr ?_; (repeat constructor); refine .mv ?_; refine .a1 ?_; refine .as_ ?_; refine .gr ?_; repeat constructor
      exact PX.cutEn ⟨p.2 + 1, hpl⟩ ⟨rfl, rfl, rfl, rfl, rfl, rfl, rfl, rfl, rfl, rfl, rfl, rfl, rfl, rfl, trivial⟩ (.i (by repeat constructor))
    · rw [if_neg (by rw [hf]; simp)] at hpl
      have hk2 : k = p.2 - 1 := by rw [hkb]; unfold bAt; exact if_neg (by rw [hf]; simp)
      rw [← hk2] at hpl
      refine .gr ?_; repeat constructor
      exact PX.cutEn ⟨k, hpl⟩ ⟨rfl, rfl, rfl, rfl, rfl, rfl, rfl, rfl, rfl, rfl, rfl, rfl, rfl, rfl, trivial⟩ (.i (by repeat constructor))
  · obtain ⟨b, hb⟩ := b
    have hble := place_le pa hb
    have hix : e.to * (s.length + 1) + b < F0 := by omega
    have htl3 : sj.todo.length ≤ F0 := by simp only [FS.mu] at jmu; omega
    have hse : edgeM s fwd p.2 sj e = pushM s.length { sj with steps := sj.steps + cntM s.length fwd e p.2 } e.to b := by unfold edgeM; rw [hb]
    dsimp only
    refine .gr ?_; (repeat constructor); refine .fa ?_; refine .lb ?_; refine .mv ?_; refine .a1 ?_; refine EL.mulN (m := e.to) rfl rfl rfl rfl rfl (by omega) ?_; refine .mv ?_; refine EL.addN rfl rfl rfl rfl rfl (by omega) ?_; refine .as_ ?_; refine .gr ?_; (repeat constructor); refine .mv ?_; refine .mv ?_; refine .i1 ?_
    refine EL.ofRV (RV.loadRm Value.bool false rfl rfl rfl (by repeat constructor) (by rw [jok.seen, ← hF0]; exact hix)) rfl rfl rfl (by intro c h; cases h) ?_
    refine .nt ?_; refine .gr ?_; repeat constructor
    refine ES.cond rfl (fun hf => ?_) (fun hf => ?_)
    · have hns : sj.seen.getD (e.to * (s.length + 1) + b) false = false := by simpa using hf
      have hst : edgeM s fwd p.2 sj e = ⟨sj.marks, sj.seen.set (e.to * (s.length + 1) + b) true, sj.todo ++ [(e.to, b)], sj.steps + cntM s.length fwd e p.2⟩ := by
        rw [hse]; unfold pushM; rw [if_neg (by rw [hns]; simp)]
      rw [hst] at jgo hstep
      refine .gr ?_; (repeat constructor); refine .mv ?_; refine .mv ?_; refine .i1 ?_
      (refine EL.storeR rfl rfl rfl rfl rfl rfl (by repeat constructor) (by rw [List.length_map, jok.seen, ← hF0]; exact hix) ?_; refine EL.rowEq (v := .slice (some ⟨g34, 0, none⟩) F0 F0) (by repeat constructor) (List.map_set (f := Value.bool) (a := true)).symm ?_)
      refine .gr ?_; (repeat constructor); refine .mv ?_; refine .fa ?_; refine .lb ?_; refine .mv ?_
      (apply EL.build2; exact rfl; exact rfl; exact rfl; exact rfl; exact rfl; exact rfl; exact rfl; exact rfl; exact rfl; exact rfl)
      (refine .b1 ?_; intro b147)
      (refine EL.append1 rfl rfl rfl rfl rfl rfl rfl rfl rfl (by repeat constructor) (by repeat constructor) (by first | (intro u hu; simp [Value.cells] at hu; subst hu; rfl) | exact all1 rfl) (by rfl) (by unfold maxLen; omega) (by first | omega | (show 1 * _ ≤ _; omega) | (show 8 * _ ≤ _; omega) | (show 16 * _ ≤ _; omega) | (show 24 * _ ≤ _; omega) | (show _ * 1 ≤ _; omega) | (show _ * 8 ≤ _; omega) | (show _ * 16 ≤ _; omega) | (show _ * 24 ≤ _; omega) | exact Nat.le_trans (Nat.mul_le_mul_right _ (show _ ≤ 1073741824 by omega)) (by decide)) ?_; intro a148 c148)
      refine .as_ ?_; refine .gr ?_; (repeat constructor); refine .a1 ?_; refine .mv ?_; refine .gr ?_; repeat constructor
      exact PX.loop ⟨i + 1, _, some ⟨a148, 0, none⟩, c148⟩ ⟨hlt', jgo, hstep.1, by rw [hstep.2.1]; exact jmu, by dsimp only; omega⟩ (by simp only; omega) ⟨rfl, rfl, rfl, rfl, rfl, rfl, rfl, getA rfl (by simp), rfl, rfl, rfl, rfl, trivial⟩ (by dsimp only; unfold TR; rw [List.length_append, prsC_snoc]; exact (.i (by repeat constructor)))
    · have hys : sj.seen.getD (e.to * (s.length + 1) + b) false = true := by simpa using hf
      have hst : edgeM s fwd p.2 sj e = { sj with steps := sj.steps + cntM s.length fwd e p.2 } := by
        rw [hse]; unfold pushM; rw [if_pos (by exact hys)]
      rw [hst] at jgo hstep
      refine .gr ?_; (repeat constructor); refine .a1 ?_; refine .mv ?_; refine .gr ?_; repeat constructor
      exact .ly ⟨i + 1, _, jad, jcap⟩ ⟨hlt', jgo, hstep.1, by rw [hstep.2.1]; exact jmu, by dsimp only; omega⟩ (by simp only; omega)
  · have hst : edgeM s fwd p.2 sj e = { sj with steps := sj.steps + cntM s.length fwd e p.2 } := by unfold edgeM; rw [y.down]
    rw [hst] at jgo hstep
    refine .gr ?_; (repeat constructor); refine .gr ?_; (repeat constructor); refine .a1 ?_; refine .mv ?_; refine .gr ?_; repeat constructor
    exact .ly ⟨i + 1, _, jad, jcap⟩ ⟨hlt', jgo, hstep.1, by rw [hstep.2.1]; exact jmu, by dsimp only; omega⟩ (by simp only; omega)
end Go.Proofs.YthcbjbkheodejaaGreat
namespace Go.Proofs.YthcbjbkheodejaaGreat
open Go Go.RowKit Sl
set_option maxRecDepth 100000
set_option maxHeartbeats 8000000
attribute [local irreducible] ES EL PX wps
abbrev leftLo (lo : Nat) (k : RE) (times : Nat) : Nat := leastM lo k - times
def leftM (lo : Nat) (hi : Int) (k : RE) (times : Nat) : RE := .rep (leftLo lo k times) (if 0 ≤ hi then max ((leftLo lo k times : Nat) : Int) (hi - times) else -1) k
theorem left_c (lo : Nat) (hi : Int) (k : RE) (hf : (RE.rep lo hi k).fine) (times : Nat) (ht : times ≤ 1073741824) (g off : Nat) (ad : Option Addr) (cap : Nat) (w : World) (hn : NodeRd w w.heap.size g off (.rep lo hi k)) (hrd : Rd w w.heap.size (some ⟨g, off, none⟩) (reCells (.rep lo hi k) (.slice ad 1 cap))) :
    Pure Tryz.prog 69 #[Pv g off, Iv (times : Nat)] (fun _ : Unit => .agg (reCells (leftM lo hi k times) (.slice ad 1 cap)).toArray) (fun _ => []) w := by
  have hlo := hf.1
  have hle := least_le lo k
  have hh := hf.2.1
  have hh2 := hf.2.2.1
  obtain ⟨m, hm⟩ : ∃ m, m = leastM lo k := ⟨_, rfl⟩
  obtain ⟨l, hl⟩ : ∃ l, l = leftLo lo k times := ⟨_, rfl⟩
  have hlm : l = m - times := by rw [hl, hm]
  rw [← hm] at hle
  have hmx : max 0 ((m : Int) - (times : Int)) = ((l : Nat) : Int) := by omega
  have hlm2 : leftM lo hi k times = .rep l (if 0 ≤ hi then max ((l : Nat) : Int) (hi - times) else -1) k := by rw [hl]; rfl
  rw [hlm2]
  refine calls_of_ES TB Tryz.func69 rfl _ Tryz.ntmps69 rfl (Sat.start w) ?_; refine .gr ?_; (repeat constructor); (refine .al ?_; intro g4); refine .gr ?_; repeat constructor
  refine ES.draw (X := Nat) (fun g5 => [(0, Pv g off), (1, Iv (times : Nat)), (4, Pv g4 0), (5, Pv g5 0)]) (fun g5 => HA.blk g5 (.cells #[Iv 5, Wv 0, Wv 0, Wv 0, Wv 0, Iv (max 0 ((m : Int) - (times : Int))), Iv (-1), Iv 0, .slice ad 1 cap] 46) :: HA.blk g4 (.cells zeroRe 46) :: []) [] mixed (.i (by repeat constructor)) ?_ (fun g5 => ?_)
  · refine .tk 0 rfl (RV.move rfl) ?_; refine .tk 2 rfl (RV.move rfl) ?_; refine .tk 5 rfl (RV.move rfl) ?_; refine .tk 6 rfl (RV.nilCheck rfl) ?_; refine .tk 7 rfl (RV.fieldAddr rfl rfl rfl rfl rfl rfl) ?_; refine .tk 8 rfl (RV.loadOld rfl rfl rfl hrd rfl) ?_
    refine ED.fork 1 [10] (by decide +kernel) ⟨⟨_, rfl, ?_⟩, ⟨_, rfl, ?_⟩, trivial⟩
    · (refine EL.callPw rfl rfl rfl ent68 rfl (fun w hs => least_c lo hi k hf g off w (NodeRd.sat hn hs)) ?_; rw [← hm])
      refine .nx ?_; refine .tk 3 rfl (RV.sub_ ((m : Int) - (times : Int)) rfl rfl (wrap_i64 _ (by omega) (by omega))) ?_; refine .tk 4 rfl (RV.maxI rfl rfl) ?_; refine .tk 9 rfl (RV.buildS #[Iv 5, Wv 0, Wv 0, Wv 0, Wv 0, Iv (max 0 ((m : Int) - (times : Int))), Iv (-1), Iv 0, .slice ad 1 cap] rfl rfl rfl rfl (by kernel_rfl)) ?_; refine .ld 10 ?_; (refine .al ?_; intro g5); refine .nx ?_; refine ED.last 11 rfl (by decide +kernel) (by decide +kernel) (by decide +kernel) ?_; refine .sa ?_; refine EL.endQ ?_
      exact .cy g5
    · (refine .al ?_; intro g5); refine .nx ?_; refine .ld 1 ?_
      (refine EL.callPw rfl rfl rfl ent68 rfl (fun w hs => least_c lo hi k hf g off w (NodeRd.sat hn hs)) ?_; rw [← hm])
      refine .nx ?_; refine .tk 3 rfl (RV.sub_ ((m : Int) - (times : Int)) rfl rfl (wrap_i64 _ (by omega) (by omega))) ?_; refine .tk 4 rfl (RV.maxI rfl rfl) ?_; refine .tk 9 rfl (RV.buildS #[Iv 5, Wv 0, Wv 0, Wv 0, Wv 0, Iv (max 0 ((m : Int) - (times : Int))), Iv (-1), Iv 0, .slice ad 1 cap] rfl rfl rfl rfl (by kernel_rfl)) ?_; refine ED.last 11 rfl (by decide +kernel) (by decide +kernel) (by decide +kernel) ?_; refine .sa ?_; refine EL.endQ ?_
      exact .cy g5
  rw [hmx]
  refine .gr ?_; (repeat constructor); refine .mv ?_; refine .nc ?_; refine .fa ?_; refine EL.loadOld rfl rfl rfl rfl rfl hrd rfl ?_; refine .gq ?_; refine .gr ?_; repeat constructor
  refine ES.condD rfl (fun hge => ?_) (fun hlt => ?_)
  · have hge' : 0 ≤ hi := hge
    rw [if_pos hge']
    refine .gs ?_; repeat constructor
    refine ES.draw (X := Unit) (fun _ => [(4, Pv g4 0), (5, Pv g5 0)]) (fun _ => HA.blk g5 (.cells (reCells (.rep l (max ((l : Nat) : Int) (hi - times)) k) (.slice ad 1 cap)).toArray 46) :: HA.blk g4 (.cells zeroRe 46) :: []) (HA.blk g5 (.cells #[Iv 5, Wv 0, Wv 0, Wv 0, Wv 0, Iv (l : Nat), Iv (-1), Iv 0, .slice ad 1 cap] 46) :: []) mixed (.i (by repeat constructor)) ?_ (fun _ => ?_)
    · refine .tk 0 rfl (RV.fieldAddr rfl rfl rfl rfl rfl rfl) ?_; refine .tk 1 rfl (RV.loadB rfl rfl rfl (by repeat constructor) rfl) ?_; refine .tk 2 rfl (RV.move rfl) ?_; refine .tk 3 rfl (RV.nilCheck rfl) ?_; refine .tk 4 rfl (RV.fieldAddr rfl rfl rfl rfl rfl rfl) ?_; refine .tk 5 rfl (RV.loadOld rfl rfl rfl hrd rfl) ?_; refine .tk 6 rfl (RV.move rfl) ?_
      refine .tk 7 rfl (RV.sub_ (hi - (times : Int)) rfl rfl (wrap_i64 _ (by simp only [RE.hi]; omega) (by simp only [RE.hi]; omega))) ?_
      refine .tk 8 rfl (RV.maxI rfl rfl) ?_; refine .tk 9 rfl (RV.fieldAddr rfl rfl rfl rfl rfl rfl) ?_; refine ED.last 10 rfl (by decide +kernel) (by decide +kernel) (by decide +kernel) ?_; refine .sb ?_; refine EL.endQ ?_
      exact .cy ()
    refine .gr ?_; (repeat constructor); refine .lg ?_; refine .sa ?_; refine .gr ?_; repeat constructor
    exact PX.ret rfl Tryz.results69 (.cons (.blkA rfl rfl rfl (by repeat constructor) rfl) .nil) (fun w hs => ⟨(), rfl, hs.ent (.i (by repeat constructor))⟩)
  · have hlt' : ¬ 0 ≤ hi := hlt
    rw [if_neg hlt']
    refine .gr ?_; (repeat constructor); refine .gr ?_; (repeat constructor); refine .lg ?_; refine .sa ?_; refine .gr ?_; repeat constructor
    exact PX.ret rfl Tryz.results69 (.cons (.blkA rfl rfl rfl (by repeat constructor) rfl) .nil) (fun w hs => ⟨(), rfl, hs.ent (.i (by repeat constructor))⟩)
end Go.Proofs.YthcbjbkheodejaaGreat
namespace Go.Proofs.YthcbjbkheodejaaGreat
open Go Go.RowKit Sl
set_option maxRecDepth 100000
set_option maxHeartbeats 8000000
attribute [local irreducible] ES EL PX wps
theorem edge_steps (s : List UInt8) (fwd : Bool) (a : Nat) (st : FS) (e : Ed) : (edgeM s fwd a st e).steps = st.steps + cntM s.length fwd e a := by
  unfold edgeM
  split
  · rfl
  · unfold pushM; split <;> rfl
theorem edges_steps (s : List UInt8) (fwd : Bool) (a : Nat) : ∀ (es : List Ed) (st : FS), (es.foldl (edgeM s fwd a) st).steps ≤ st.steps + es.length
  | [], st => Nat.le_refl _
  | e :: es, st => by
    have h1 := edges_steps s fwd a es (edgeM s fwd a st e)
    have h2 := edge_steps s fwd a st e
    have h3 := cnt_le s.length fwd e a
    simp only [List.foldl_cons, List.length_cons]; omega
theorem flood_steps {es : List (List Ed)} {M : Nat} (hM : ∀ l ∈ es, l.length ≤ M) (s : List UInt8) (goal : Nat) (fwd : Bool) : ∀ (f : Nat) (st : FS), (floodGo es s goal fwd f st).steps ≤ st.steps + f * M
  | 0, st => by rw [floodGo]; omega
  | f + 1, st => by
    rw [floodGo]
    split
    · omega
    · rename_i p hp
      have h1 := flood_steps hM s goal fwd f ((es.getD p.1 []).foldl (edgeM s fwd p.2) (popM goal st p))
      have h2 := edges_steps s fwd p.2 (es.getD p.1 []) (popM goal st p)
      have h3 : (popM goal st p).steps = st.steps := rfl
      have h4 : (es.getD p.1 []).length ≤ M := by
        rw [List.getD_eq_getElem?_getD]
        cases hg : es[p.1]? with
        | none => simp
        | some l => exact hM l (List.mem_of_getElem? hg)
      rw [Nat.succ_mul]; omega
theorem floodM_steps {es : List (List Ed)} (hN : es.length ≤ 131072) (hM : ∀ l ∈ es, l.length ≤ 131072) (s : List UInt8) (hs : s.length ≤ 1024) (p : Nat × Nat) (goal : Nat) (fwd : Bool) (st : Nat) : (floodM es s p goal fwd st).steps ≤ st + 131072 * 1025 * 131072 := by
  have h1 := flood_steps hM s goal fwd (es.length * (s.length + 1)) (fs0 es.length s.length p st)
  have h2 : es.length * (s.length + 1) * 131072 ≤ 131072 * 1025 * 131072 := Nat.mul_le_mul_right _ (Nat.mul_le_mul hN (by omega))
  have h3 : (fs0 es.length s.length p st).steps = st := rfl
  unfold floodM
  omega
theorem make_room (ks : List RE) (h : costL ks + 1 ≤ 131072) : (makeM ks).1.Room 0 ∧ (makeM ks).2 < (makeM ks).1.out.length := by
  have h0 : AM.Room ⟨[], []⟩ (costL ks + 1) := am0_room h
  have h1 := layL_room ks _ 0 0 (add_room h0) (by rw [add_len]; simp)
  exact ⟨h1.1, h1.2.1⟩
def endsM (A : AM × Nat) (s : List UInt8) (i st : Nat) : FS := floodM A.1.out s (0, i) A.2 true st
def startsM (A : AM × Nat) (s : List UInt8) (j st : Nat) : FS := floodM A.1.back s (A.2, j) 0 false st
theorem ends_c (gs : Nat) (s : List UInt8) (hs : s.length ≤ 1024) (st0 : Nat) (hst0 : st0 ≤ 1152921504606846976) (rest : List Value) (ty : TypeId) (ga : Nat) (A : AM × Nat) (x : AX A.1) (hr : A.1.Room 0) (he : A.2 < A.1.out.length) (i : Nat) (hi : i ≤ s.length) :
    Mut Tryz.prog 40 #[Pv gs 0, Pv ga 0, Iv (i : Nat)] [WB gs s st0 rest ty, AP ga x.1 A.2] (fun g : Nat => .slice (some ⟨g, 0, none⟩) (s.length + 1) (s.length + 1))
      (fun g => [BR g (s.length + 1) (endsM A s i st0).marks, WB gs s (endsM A s i st0).steps rest ty, AP ga x.1 A.2]) := by
  intro w0 B R w h
  obtain ⟨a, en⟩ := A
  obtain ⟨⟨oad, ocap, bad, bcap, ps, qs⟩, hv⟩ := x
  obtain ⟨ho, hb⟩ := id hv
  dsimp only at ho hb hr he ⊢
  have hout := hr.out
  have hro := hr.ro
  have hfc := flood_c gs s hs st0 hst0 rest ty a.out hr.eo (by omega) (fun l hl => by have := hro l hl; omega) ps ho oad ocap (0, i) (by show 0 < _; omega) hi en true
  replace h : Sat w0 B (AH ga ⟨oad, ocap, bad, bcap, ps, qs⟩ en ++ (WB gs s st0 rest ty :: R)) w := Sat.unpack (h.ent (.i (by repeat constructor)))
  replace h : Sat w0 B (HA.blk ga (.cells #[.slice oad ps.length ocap, .slice bad qs.length bcap, Iv (en : Nat)] 121) :: WB gs s st0 rest ty :: OR oad ocap ps :: HA.edg ps :: OR bad bcap qs :: HA.edg qs :: R) w := h.ent (.i (by repeat constructor))
  unfold endsM
  dsimp only
  generalize floodM a.out s (0, i) en true st0 = r at hfc
  refine calls_of_ES TB Tryz.func40 rfl _ Tryz.ntmps40 rfl h ?_; refine .gr ?_; (repeat constructor); refine .as_ ?_; refine .gr ?_; repeat constructor
  refine ES.draw (X := Nat) (fun g => [(6, .slice (some ⟨g, 0, none⟩) (s.length + 1) (s.length + 1))]) (fun g => BR g (s.length + 1) r.marks :: WB gs s r.steps rest ty :: HA.blk ga (.cells #[.slice oad ps.length ocap, .slice bad qs.length bcap, Iv (en : Nat)] 121) :: OR oad ocap ps :: HA.edg ps :: OR bad bcap qs :: HA.edg qs :: R)
    (HA.blk ga (.cells #[.slice oad ps.length ocap, .slice bad qs.length bcap, Iv (en : Nat)] 121) :: []) mixed (.i (by repeat constructor)) ?_ (fun g => ?_)
  · refine .tk 0 rfl (RV.move rfl) ?_; refine .tk 1 rfl (RV.move rfl) ?_; refine .tk 2 rfl (RV.nilCheck rfl) ?_; refine .tk 3 rfl (RV.fieldAddr rfl rfl rfl rfl rfl rfl) ?_; refine .tk 4 rfl (RV.loadB rfl rfl rfl (by repeat constructor) rfl) ?_; refine .tk 5 rfl (RV.move rfl) ?_; refine .tk 6 rfl (RV.buildS #[Iv 0, Iv (i : Nat)] rfl rfl rfl rfl (by kernel_rfl)) ?_; refine .tk 7 rfl (RV.move rfl) ?_; refine .tk 8 rfl (RV.nilCheck rfl) ?_; refine .tk 9 rfl (RV.fieldAddr rfl rfl rfl rfl rfl rfl) ?_; refine .tk 10 rfl (RV.loadB rfl rfl rfl (by repeat constructor) rfl) ?_; refine .ld 11 ?_; (refine EL.callM rfl rfl rfl ent62 rfl hfc (by repeat constructor) ?_; intro g); refine .nx ?_; refine .tk 12 rfl (RV.assign rfl) ?_; refine .dn ?_
    exact .cy g
  refine .gr ?_; repeat constructor
  refine PX.ret rfl Tryz.results40 (.cons (.tmp rfl) .nil) (fun w hs => ⟨g, rfl, ?_⟩)
  have k1 := Sat.pack (Hs := AH ga ⟨oad, ocap, bad, bcap, ps, qs⟩ en) (hs.ent (H' := AH ga ⟨oad, ocap, bad, bcap, ps, qs⟩ en ++ (BR g (s.length + 1) r.marks :: WB gs s r.steps rest ty :: R)) (.i (by repeat constructor)))
  exact k1.ent (.i (by repeat constructor))
theorem starts_c (gs : Nat) (s : List UInt8) (hs : s.length ≤ 1024) (st0 : Nat) (hst0 : st0 ≤ 1152921504606846976) (rest : List Value) (ty : TypeId) (ga : Nat) (A : AM × Nat) (x : AX A.1) (hr : A.1.Room 0) (he : A.2 < A.1.out.length) (j : Nat) (hj : j ≤ s.length) :
    Mut Tryz.prog 88 #[Pv gs 0, Pv ga 0, Iv (j : Nat)] [WB gs s st0 rest ty, AP ga x.1 A.2] (fun g : Nat => .slice (some ⟨g, 0, none⟩) (s.length + 1) (s.length + 1))
      (fun g => [BR g (s.length + 1) (startsM A s j st0).marks, WB gs s (startsM A s j st0).steps rest ty, AP ga x.1 A.2]) := by
  intro w0 B R w h
  obtain ⟨a, en⟩ := A
  obtain ⟨⟨oad, ocap, bad, bcap, ps, qs⟩, hv⟩ := x
  obtain ⟨ho, hb⟩ := id hv
  dsimp only at ho hb hr he ⊢
  have hout := hr.out
  have hsame := hr.same
  have hrb := hr.rb
  have hfc := flood_c gs s hs st0 hst0 rest ty a.back hr.eb (by omega) (fun l hl => by have := hrb l hl; omega) qs hb bad bcap (en, j) (by show en < _; omega) hj 0 false
  replace h : Sat w0 B (AH ga ⟨oad, ocap, bad, bcap, ps, qs⟩ en ++ (WB gs s st0 rest ty :: R)) w := Sat.unpack (h.ent (.i (by repeat constructor)))
  replace h : Sat w0 B (HA.blk ga (.cells #[.slice oad ps.length ocap, .slice bad qs.length bcap, Iv (en : Nat)] 121) :: WB gs s st0 rest ty :: OR oad ocap ps :: HA.edg ps :: OR bad bcap qs :: HA.edg qs :: R) w := h.ent (.i (by repeat constructor))
  unfold startsM
  dsimp only
  generalize floodM a.back s (en, j) 0 false st0 = r at hfc
  refine calls_of_ES TB Tryz.func88 rfl _ Tryz.ntmps88 rfl h ?_; refine .gr ?_; (repeat constructor); refine .as_ ?_; refine .gr ?_; repeat constructor
  refine ES.draw (X := Nat) (fun g => [(6, .slice (some ⟨g, 0, none⟩) (s.length + 1) (s.length + 1))]) (fun g => BR g (s.length + 1) r.marks :: WB gs s r.steps rest ty :: HA.blk ga (.cells #[.slice oad ps.length ocap, .slice bad qs.length bcap, Iv (en : Nat)] 121) :: OR oad ocap ps :: HA.edg ps :: OR bad bcap qs :: HA.edg qs :: R)
    (HA.blk ga (.cells #[.slice oad ps.length ocap, .slice bad qs.length bcap, Iv (en : Nat)] 121) :: []) mixed (.i (by repeat constructor)) ?_ (fun g => ?_)
  · refine .tk 0 rfl (RV.move rfl) ?_; refine .tk 1 rfl (RV.move rfl) ?_; refine .tk 2 rfl (RV.nilCheck rfl) ?_; refine .tk 3 rfl (RV.fieldAddr rfl rfl rfl rfl rfl rfl) ?_; refine .tk 4 rfl (RV.loadB rfl rfl rfl (by repeat constructor) rfl) ?_; refine .tk 5 rfl (RV.move rfl) ?_; refine .tk 6 rfl (RV.nilCheck rfl) ?_; refine .tk 7 rfl (RV.fieldAddr rfl rfl rfl rfl rfl rfl) ?_; refine .tk 8 rfl (RV.loadB rfl rfl rfl (by repeat constructor) rfl) ?_; refine .tk 9 rfl (RV.move rfl) ?_; refine .tk 10 rfl (RV.buildS #[Iv (en : Nat), Iv (j : Nat)] rfl rfl rfl rfl (by kernel_rfl)) ?_; refine .ld 11 ?_; (refine EL.callM rfl rfl rfl ent62 rfl hfc (by repeat constructor) ?_; intro g); refine .nx ?_; refine .tk 12 rfl (RV.assign rfl) ?_; refine .dn ?_
    exact .cy g
  refine .gr ?_; repeat constructor
  refine PX.ret rfl Tryz.results88 (.cons (.tmp rfl) .nil) (fun w hs => ⟨g, rfl, ?_⟩)
  have k1 := Sat.pack (Hs := AH ga ⟨oad, ocap, bad, bcap, ps, qs⟩ en) (hs.ent (H' := AH ga ⟨oad, ocap, bad, bcap, ps, qs⟩ en ++ (BR g (s.length + 1) r.marks :: WB gs s r.steps rest ty :: R)) (.i (by repeat constructor)))
  exact k1.ent (.i (by repeat constructor))
def dnL (i : Nat) : Nat → List Nat
  | 0 => []
  | n + 1 => (i + n) :: dnL i n
def splE (s : List UInt8) (hd : List RE) (i st : Nat) : FS := endsM (makeM hd) s i st
def splS (s : List UInt8) (hd tl : List RE) (i j st : Nat) : FS := startsM (makeM tl) s j (splE s hd i st).steps
def splL (s : List UInt8) (hd tl : List RE) (i j st : Nat) : List Nat := (dnL i (j + 1 - i)).filter fun p => (splE s hd i st).marks.getD p false && (splS s hd tl i j st).marks.getD p false
abbrev IR (ad : Option Addr) (cap : Nat) (l : List Nat) : HA := HA.row (.slice ad l.length cap) 3 1 l.length (l.map fun z : Nat => Iv (z : Nat))
structure SPL where
  n : Nat
  l : List Nat
  ad : Option Addr
  cap : Nat
abbrev RowRd (w0 : World) (B : Nat) (T : HA) (ad : Option Addr) (ks : List RE) : Prop := ∀ (w : World) (H : List HA), Sat w0 B (T :: H) w → ∀ i k, ks[i]? = some k → ∃ g o, ad = some ⟨g, o, none⟩ ∧ NodeRd w w.heap.size g (o + i * 9) k
theorem flood_len {es : List (List Ed)} (hes : EdsOk es) (s : List UInt8) {x0 : Nat × Nat} (h1 : x0.1 < es.length) (h2 : x0.2 ≤ s.length) (goal : Nat) (fwd : Bool) (st0 : Nat) : (floodM es s x0 goal fwd st0).marks.length = s.length + 1 := by
  obtain ⟨_, h⟩ := flood_spec hes s h1 h2 goal fwd st0
  exact h.len
theorem splits_c (gs : Nat) (s : List UInt8) (hs : s.length ≤ 1024) (st0 : Nat) (hst0 : st0 ≤ 576460752303423488) (rest : List Value) (ty : TypeId) (hd tl : List RE) (hdf : ∀ k ∈ hd, k.fine) (tlf : ∀ k ∈ tl, k.fine) (hdl : hd.length ≤ 1024) (tll : tl.length ≤ 1024) (hdc : costL hd + 1 ≤ 131072) (tlc : costL tl + 1 ≤ 131072)
    (had tad : Option Addr) (hcap tcap : Nat) (i j : Nat) (hij : i ≤ j) (hj : j ≤ s.length) (w0 : World) (B : Nat) (T : HA) (hh : RowRd w0 B T had hd) (ht : RowRd w0 B T tad tl) :
    MutAt Tryz.prog 67 #[Pv gs 0, .slice had hd.length hcap, .slice tad tl.length tcap, Iv (i : Nat), Iv (j : Nat)] [WB gs s st0 rest ty, T] (fun z : Option Addr × Nat => .slice z.1 (splL s hd tl i j st0).length z.2)
      (fun z => [IR z.1 z.2 (splL s hd tl i j st0), WB gs s (splS s hd tl i j st0).steps rest ty, T]) w0 B := by
  intro R w h
  replace h : Sat w0 B (WB gs s st0 rest ty :: T :: R) w := h
  have hi : i ≤ s.length := by omega
  obtain ⟨hr1, he1⟩ := make_room hd hdc
  obtain ⟨hr2, he2⟩ := make_room tl tlc
  have hE : (splE s hd i st0).steps ≤ 1152921504606846976 := by
    have := floodM_steps (es := (makeM hd).1.out) (by have := hr1.out; omega) (fun l hl => by have := hr1.ro l hl; omega) s hs (0, i) (makeM hd).2 true st0
    unfold splE endsM
    omega
  have hL : splL s hd tl i j st0 = (dnL i (j + 1 - i)).filter fun p => (splE s hd i st0).marks.getD p false && (splS s hd tl i j st0).marks.getD p false := rfl
  have hl1 : (splE s hd i st0).marks.length = s.length + 1 := flood_len hr1.eo s (by show 0 < _; omega) hi _ _ _
  have hl2 : (splS s hd tl i j st0).marks.length = s.length + 1 := flood_len hr2.eb s (by show (makeM tl).2 < _; rw [hr2.same]; exact he2) hj _ _ _
  have hec := fun ga (x : AX (makeM hd).1) => ends_c gs s hs st0 (by omega) rest ty ga (makeM hd) x hr1 he1 i hi
  have hsc := fun ga (x : AX (makeM tl).1) => starts_c gs s hs (splE s hd i st0).steps hE rest ty ga (makeM tl) x hr2 he2 j hj
  change ∀ (ga : Nat) (x : AX (makeM hd).1), Mut _ _ _ _ _ (fun g => [BR g (s.length + 1) (splE s hd i st0).marks, WB gs s (splE s hd i st0).steps rest ty, AP ga x.1 (makeM hd).2]) at hec
  change ∀ (ga : Nat) (x : AX (makeM tl).1), Mut _ _ _ _ _ (fun g => [BR g (s.length + 1) (splS s hd tl i j st0).marks, WB gs s (splS s hd tl i j st0).steps rest ty, AP ga x.1 (makeM tl).2]) at hsc
  generalize splS s hd tl i j st0 = FSs at *
  generalize splE s hd i st0 = FE at *
  generalize splL s hd tl i j st0 = L at *
  refine calls_of_ES TB Tryz.func67 rfl _ Tryz.ntmps67 rfl h ?_; refine .gr ?_; (repeat constructor); refine .as_ ?_; refine .gr ?_; (repeat constructor); refine .gr ?_; (repeat constructor); refine .mv ?_; refine .mv ?_; (refine EL.callXw rfl rfl rfl ent23 rfl (fun w hs => make_c hd hdf hdl hdc had hcap w (hh w [] (hs.ent (.i (by repeat constructor))))) ?_; intro m1); refine .mv ?_; (refine EL.callM rfl rfl rfl ent40 rfl (hec m1.1 m1.2) (by repeat constructor) ?_; intro e1); refine .mv ?_; refine .mv ?_; (refine EL.callXw rfl rfl rfl ent23 rfl (fun w hs => make_c tl tlf tll tlc tad tcap w (ht w [] (hs.ent (.i (by repeat constructor))))) ?_; intro m2); refine .mv ?_; (refine EL.callM rfl rfl rfl ent88 rfl (hsc m2.1 m2.2) (by repeat constructor) ?_; intro e2); refine .as_ ?_; refine .as_ ?_; refine .gr ?_; (repeat constructor); refine EL.nilRow 3 1 ?_; refine .gr ?_; (repeat constructor); refine .as_ ?_; refine .gr ?_; (repeat constructor); refine .mv ?_; refine .as_ ?_; refine .gr ?_; repeat constructor
  refine ES.loop (σ := SPL) (fun z => z.n ≤ j + 1 - i ∧ z.l ++ ((dnL i z.n).filter fun p => FE.marks.getD p false && FSs.marks.getD p false) = L ∧ z.l.length + z.n ≤ j + 1 - i)
    (fun z => [(3, Iv (i : Nat)), (11, .slice (some ⟨e1, 0, none⟩) (s.length + 1) (s.length + 1)), (12, .slice (some ⟨e2, 0, none⟩) (s.length + 1) (s.length + 1)), (13, .slice z.ad z.l.length z.cap), (14, Iv ((i : Int) + (z.n : Int) - 1))])
    (fun z => IR z.ad z.cap z.l :: BR e1 (s.length + 1) FE.marks :: BR e2 (s.length + 1) FSs.marks :: WB gs s FSs.steps rest ty :: T :: R) (fun z => z.n) ⟨j + 1 - i, [], none, 0⟩ ⟨Nat.le_refl _, hL.symm, by simp⟩
    ⟨rfl, rfl, rfl, rfl, getA rfl (congrArg Iv (by simp only; omega)), trivial⟩ (.i (by repeat constructor)) ?_
  rintro ⟨n, l, ad, cap⟩ ⟨zn, zl, zc⟩
  dsimp only at zn zl zc ⊢
  refine .gr ?_; (repeat constructor); refine .mv ?_; refine .mv ?_; refine .gq ?_; refine .gr ?_; repeat constructor
  refine ES.condD rfl (fun hge => ?_) (fun hlt => ?_)
  rotate_left
  · obtain rfl : n = 0 := by omega
    rw [dnL, List.filter_nil, List.append_nil] at zl
    subst zl
    refine .gr ?_; (repeat constructor); refine .mv ?_; refine .as_ ?_; refine .gr ?_; repeat constructor
    exact PX.ret rfl Tryz.results67 (.cons (.tmp rfl) .nil) (fun w hs => ⟨(ad, cap), rfl, hs.ent (.i (by repeat constructor))⟩)
  obtain ⟨n, rfl⟩ : ∃ n', n = n' + 1 := ⟨n - 1, by omega⟩
  have e : (i : Int) + ((n + 1 : Nat) : Int) - 1 = ((i + n : Nat) : Int) := by omega
  rw [e]
  have hp : i + n ≤ s.length := by omega
  rw [dnL, List.filter_cons] at zl
  refine .gr ?_; repeat constructor
  refine EL.cutX (X := Unit) (fun _ => [(3, Iv (i : Nat)), (11, .slice (some ⟨e1, 0, none⟩) (s.length + 1) (s.length + 1)), (12, .slice (some ⟨e2, 0, none⟩) (s.length + 1) (s.length + 1)), (13, .slice ad l.length cap), (14, Iv ((i + n : Nat) : Int)), (40, .bool (FE.marks.getD (i + n) false && FSs.marks.getD (i + n) false))])
    (fun _ => IR ad cap l :: BR e1 (s.length + 1) FE.marks :: BR e2 (s.length + 1) FSs.marks :: WB gs s FSs.steps rest ty :: T :: R) ?_ (fun _ => ?_)
  · refine .gr ?_; (repeat constructor); refine .mv ?_; refine .mv ?_; refine .i1 ?_
    refine EL.ofRV (RV.loadRm (l := FE.marks) Value.bool false rfl rfl rfl (by repeat constructor) (by rw [hl1]; omega)) rfl rfl rfl (by intro c h; cases h) ?_
    refine .mv ?_
    first | refine EL.splitD (d := 35) rfl (fun hp35 => ?_) (fun hp35 => ?_) | refine EL.splitN (d := 35) rfl (fun hp35 => ?_) (fun hp35 => ?_) | refine EL.splitB (d := 35) rfl (fun hp35 => ?_) (fun hp35 => ?_)
    · refine .mv ?_; refine .mv ?_; refine .i1 ?_
      refine EL.ofRV (RV.loadRm (l := FSs.marks) Value.bool false rfl rfl rfl (by repeat constructor) (by rw [hl2]; omega)) rfl rfl rfl (by intro c h; cases h) ?_
      refine .pt ?_
      exact .dx () ⟨rfl, rfl, rfl, rfl, rfl, getA rfl (congrArg Value.bool (by rw [hp35]; rfl)), trivial⟩
    · refine .ps ?_; refine .ps ?_; refine .ps ?_; refine .ps ?_; refine .pf ?_
      exact .dx () ⟨rfl, rfl, rfl, rfl, rfl, getA rfl (congrArg Value.bool (by rw [hp35]; rfl)), trivial⟩
  refine ES.cond rfl (fun hf => ?_) (fun hf => ?_)
  · rw [if_pos hf] at zl
    refine .gr ?_; (repeat constructor); refine .mv ?_; refine .mv ?_; (refine .b1 ?_; intro b43)
    (refine EL.append1 rfl rfl rfl rfl rfl rfl rfl rfl rfl (by repeat constructor) (by repeat constructor) (by first | (intro u hu; simp [Value.cells] at hu; subst hu; rfl) | exact all1 rfl) (by rfl) (by unfold maxLen; omega) (by first | omega | (show 1 * _ ≤ _; omega) | (show 8 * _ ≤ _; omega) | (show 16 * _ ≤ _; omega) | (show 24 * _ ≤ _; omega) | (show _ * 1 ≤ _; omega) | (show _ * 8 ≤ _; omega) | (show _ * 16 ≤ _; omega) | (show _ * 24 ≤ _; omega) | exact Nat.le_trans (Nat.mul_le_mul_right _ (show _ ≤ 1073741824 by omega)) (by decide)) ?_; intro a44 c44)
    refine .as_ ?_; refine .gr ?_; (repeat constructor); refine .gr ?_; (repeat constructor); refine .mv ?_; refine EL.sub_ ((i : Int) + (n : Int) - 1) rfl rfl rfl rfl ((wrap_i64 _ (by omega) (by omega)).trans (by omega)) ?_; refine .as_ ?_; refine .gr ?_; repeat constructor
    exact PX.loop ⟨n, l ++ [i + n], some ⟨a44, 0, none⟩, c44⟩ ⟨by dsimp only; omega, by dsimp only; rw [List.append_assoc]; exact zl, by dsimp only; rw [List.length_append, List.length_singleton]; omega⟩ (by simp only; omega) ⟨rfl, rfl, rfl, getA rfl (by simp), rfl, trivial⟩ (by dsimp only; unfold IR; rw [List.length_append, List.map_append]; exact (.i (by repeat constructor)))
  · rw [if_neg (by rw [hf]; simp)] at zl
    refine .gr ?_; (repeat constructor); refine .gr ?_; (repeat constructor); refine .mv ?_; refine EL.sub_ ((i : Int) + (n : Int) - 1) rfl rfl rfl rfl ((wrap_i64 _ (by omega) (by omega)).trans (by omega)) ?_; refine .as_ ?_; refine .gr ?_; repeat constructor
    exact .ly ⟨n, l, ad, cap⟩ ⟨by dsimp only; omega, zl, by dsimp only; omega⟩ (by simp only; omega)
end Go.Proofs.YthcbjbkheodejaaGreat
namespace Go.Proofs.YthcbjbkheodejaaGreat
open Go Go.RowKit Sl
set_option maxRecDepth 100000
set_option maxHeartbeats 8000000
attribute [local irreducible] ES EL PX wps
abbrev w64 (x : Int) : Int := IntKind.i64.wrap x
structure Me where
  pos : Int
  grp : Int
  least : Int
  most : Int
  back : Bool
  bol : Bool
  eol : Bool
def Me.cells (m : Me) : List Value := [Iv m.pos, Iv m.grp, Iv m.least, Iv m.most, .bool m.back, .bool m.bol, .bool m.eol]
def Me.zero : Me := ⟨0, 0, 0, 0, false, false, false⟩
def moreM (a b : Int) : Int := if a < 0 ∨ b < 0 then -1 else w64 (a + b)
def manyM (a h : Int) : Int := if a = 0 ∨ h = 0 then 0 else if a < 0 ∨ h < 0 then -1 else w64 (a * h)
def Me.plus (m n : Me) : Me := ⟨w64 (m.pos + n.pos), w64 (m.grp + n.grp), w64 (m.least + n.least), moreM m.most n.most, m.back || n.back, m.bol || n.bol, m.eol || n.eol⟩
def timesI (lo : Nat) (hi : Int) : Int := if hi < 0 then max (lo : Int) 1 else hi
def finM (k lo : Nat) (hi : Int) (m : Me) : Me :=
  if k = 1 then { m with pos := 1, least := 1, most := 1 }
  else if k = 2 then { m with bol := true }
  else if k = 3 then { m with eol := true }
  else if k = 4 then { m with grp := w64 (m.grp + 1) }
  else if k = 6 then { m with pos := 1, most := -1, back := true }
  else if k = 5 then { m with pos := w64 (m.pos * timesI lo hi), least := w64 (m.least * lo), most := manyM m.most hi }
  else m
mutual
def measM : RE → Me
  | .byte _ => finM 1 0 0 Me.zero
  | .bol => finM 2 0 0 Me.zero
  | .eol => finM 3 0 0 Me.zero
  | .back _ => finM 6 0 0 Me.zero
  | .cat ks => measL ks Me.zero
  | .group _ k => finM 4 0 0 (Me.zero.plus (measM k))
  | .rep lo hi k => finM 5 lo hi (Me.zero.plus (measM k))
def measL : List RE → Me → Me
  | [], m => m
  | k :: ks, m => measL ks (m.plus (measM k))
end
theorem meas_eq (r : RE) : measM r = finM r.kind r.lo r.hi (measL r.kids Me.zero) := by
  cases r <;> simp only [RE.kind, RE.lo, RE.hi, RE.kids] <;> rw [measM] <;> first | rfl | (rw [measL]; rfl) | (rw [measL, measL])
theorem more_c (a b : Int) (w : World) : Pure Tryz.prog 60 #[Iv a, Iv b] (fun _ : Unit => Iv (moreM a b)) (fun _ => []) w := by
  refine calls_of_ES TB Tryz.func60 rfl _ Tryz.ntmps60 rfl (Sat.start w) ?_; refine .go ?_; (repeat constructor); refine .as_ ?_; refine .go ?_; repeat constructor
  refine EL.cutX (X := Unit) (fun _ => [(0, Iv a), (1, Iv b), (10, .bool (decide (a < 0 ∨ b < 0)))]) (fun _ => []) ?_ (fun _ => ?_)
  · refine .go ?_; (repeat constructor); refine .mv ?_; refine .ls ?_; refine .mv ?_
    first | refine EL.splitD (d := 7) rfl (fun hp7 => ?_) (fun hp7 => ?_) | refine EL.splitN (d := 7) rfl (fun hp7 => ?_) (fun hp7 => ?_) | refine EL.splitB (d := 7) rfl (fun hp7 => ?_) (fun hp7 => ?_)
    · refine .ps ?_; refine .ps ?_; refine .pt ?_
      exact .dx () ⟨rfl, rfl, getA rfl (congrArg Value.bool (by rw [Bool.eq_iff_iff]; simp only [decide_eq_true_eq, true_iff]; omega)), trivial⟩
    · refine .mv ?_; refine .ls ?_; refine .pf ?_
      exact .dx () ⟨rfl, rfl, getA rfl (congrArg Value.bool (by rw [Bool.eq_iff_iff]; simp only [decide_eq_true_eq, true_iff]; omega)), trivial⟩
  refine ES.condD rfl (fun h => ?_) (fun h => ?_)
  · refine .go ?_; (repeat constructor); refine .as_ ?_; refine .go ?_; repeat constructor
    exact PX.ret rfl Tryz.results60 (.cons (.tmp rfl) .nil) (fun w hs => ⟨(), by unfold moreM; rw [if_pos h]; rfl, hs.ent (.i (by repeat constructor))⟩)
  · refine .go ?_; (repeat constructor); refine .mv ?_; refine .mv ?_; refine EL.add (w64 (a + b)) rfl rfl rfl rfl rfl ?_; refine .as_ ?_; refine .go ?_; repeat constructor
    exact PX.ret rfl Tryz.results60 (.cons (.tmp rfl) .nil) (fun w hs => ⟨(), by unfold moreM; rw [if_neg h]; rfl, hs.ent (.i (by repeat constructor))⟩)
theorem many_c (a b : Int) (w : World) : Pure Tryz.prog 61 #[Iv a, Iv b] (fun _ : Unit => Iv (manyM a b)) (fun _ => []) w := by
  refine calls_of_ES TB Tryz.func61 rfl _ Tryz.ntmps61 rfl (Sat.start w) ?_; refine .go ?_; (repeat constructor); refine .as_ ?_; refine .go ?_; repeat constructor
  refine EL.cutX (X := Unit) (fun _ => [(0, Iv a), (1, Iv b), (5, .bool (decide (a = 0 ∨ b = 0)))]) (fun _ => []) ?_ (fun _ => ?_)
  · refine .go ?_; (repeat constructor); refine .mv ?_; refine .ei ?_; refine .mv ?_
    first | refine EL.splitD (d := 8) rfl (fun hp8 => ?_) (fun hp8 => ?_) | refine EL.splitN (d := 8) rfl (fun hp8 => ?_) (fun hp8 => ?_) | refine EL.splitB (d := 8) rfl (fun hp8 => ?_) (fun hp8 => ?_)
    · refine .ps ?_; refine .ps ?_; refine .pt ?_; refine .as_ ?_
      exact .dx () ⟨rfl, rfl, getA rfl (congrArg Value.bool (by rw [Bool.eq_iff_iff]; simp only [decide_eq_true_eq, true_iff]; omega)), trivial⟩
    · refine .mv ?_; refine .ei ?_; refine .pf ?_; refine .as_ ?_
      exact .dx () ⟨rfl, rfl, getA rfl (congrArg Value.bool (by rw [Bool.eq_iff_iff]; simp only [decide_eq_true_eq, true_iff]; omega)), trivial⟩
  refine ES.condD rfl (fun h => ?_) (fun h => ?_)
  · refine .go ?_; (repeat constructor); refine .as_ ?_; refine .go ?_; repeat constructor
    exact PX.ret rfl Tryz.results61 (.cons (.tmp rfl) .nil) (fun w hs => ⟨(), by unfold manyM; rw [if_pos h]; rfl, hs.ent (.i (by repeat constructor))⟩)
  refine .go ?_; repeat constructor
  refine EL.cutX (X := Unit) (fun _ => [(0, Iv a), (1, Iv b), (12, .bool (decide (a < 0 ∨ b < 0)))]) (fun _ => []) ?_ (fun _ => ?_)
  · refine .go ?_; (repeat constructor); refine .mv ?_; refine .ls ?_; refine .mv ?_
    first | refine EL.splitD (d := 15) rfl (fun hp15 => ?_) (fun hp15 => ?_) | refine EL.splitN (d := 15) rfl (fun hp15 => ?_) (fun hp15 => ?_) | refine EL.splitB (d := 15) rfl (fun hp15 => ?_) (fun hp15 => ?_)
    · refine .ps ?_; refine .ps ?_; refine .pt ?_; refine .as_ ?_
      exact .dx () ⟨rfl, rfl, getA rfl (congrArg Value.bool (by rw [Bool.eq_iff_iff]; simp only [decide_eq_true_eq, true_iff]; omega)), trivial⟩
    · refine .mv ?_; refine .ls ?_; refine .pf ?_; refine .as_ ?_
      exact .dx () ⟨rfl, rfl, getA rfl (congrArg Value.bool (by rw [Bool.eq_iff_iff]; simp only [decide_eq_true_eq, true_iff]; omega)), trivial⟩
  refine ES.condD rfl (fun h2 => ?_) (fun h2 => ?_)
  · refine .go ?_; (repeat constructor); refine .as_ ?_; refine .go ?_; repeat constructor
    exact PX.ret rfl Tryz.results61 (.cons (.tmp rfl) .nil) (fun w hs => ⟨(), by unfold manyM; rw [if_neg h, if_pos h2]; rfl, hs.ent (.i (by repeat constructor))⟩)
  · refine .go ?_; (repeat constructor); refine .mv ?_; refine .mv ?_; refine EL.mul (w64 (a * b)) rfl rfl rfl rfl rfl ?_; refine .as_ ?_; refine .go ?_; repeat constructor
    exact PX.ret rfl Tryz.results61 (.cons (.tmp rfl) .nil) (fun w hs => ⟨(), by unfold manyM; rw [if_neg h, if_neg h2]; rfl, hs.ent (.i (by repeat constructor))⟩)
structure MS where
  i : Nat
  m : Me
theorem of_n (n : Nat) : ∀ r : RE, r.sz ≤ n → r.fine → ∀ (ad : Option Addr) (cap : Nat) (w : World), KidsRd w w.heap.size r.kids ad →
    Pure Tryz.prog 39 #[.agg (reCells r (.slice ad r.kids.length cap)).toArray] (fun _ : Unit => .agg (measM r).cells.toArray) (fun _ => []) w := by
  induction n with
  | zero => intro r hr; exact absurd (sz_pos r) (by omega)
  | succ n ih =>
    intro r hsz hfine ad cap w hkids
    have hkl := fine_len hfine
    rw [meas_eq r]
    obtain ⟨KM, hKM⟩ : ∃ KM, KM = measL r.kids Me.zero := ⟨_, rfl⟩
    rw [← hKM]
    refine calls_of_ES TB Tryz.func39 rfl _ Tryz.ntmps39 rfl (Sat.start w) ?_; refine .go ?_; (repeat constructor); (refine .bx ?_; intro g1); (refine .al ?_; intro g2); refine .go ?_; (repeat constructor); (refine .al ?_; intro g3); refine .go ?_; (repeat constructor); refine .fa ?_; refine .lb ?_; refine .lL ?_; refine .mv ?_; refine .go ?_; repeat constructor
    refine ES.loop (σ := MS) (fun z => z.i ≤ r.kids.length ∧ measL (r.kids.drop z.i) z.m = KM) (fun z => [(1, Pv g1 0), (2, Pv g2 0), (3, Pv g3 0), (9, .slice ad r.kids.length cap), (10, Iv (r.kids.length : Nat)), (11, Iv (z.i : Nat))])
      (fun z => HA.blk g3 (.cells z.m.cells.toArray 66) :: HA.blk g2 (.cells Me.zero.cells.toArray 66) :: HA.blk g1 (.cells (reCells r (.slice ad r.kids.length cap)).toArray 46) :: []) (fun z => r.kids.length - z.i) ⟨0, Me.zero⟩ ⟨Nat.zero_le _, by rw [List.drop_zero]; exact hKM.symm⟩ ⟨rfl, rfl, rfl, rfl, rfl, rfl, trivial⟩ (.i (by repeat constructor)) ?_
    rintro ⟨i, m⟩ ⟨hi, hgo⟩
    dsimp only at hi hgo ⊢
    refine .go ?_; (repeat constructor); refine .ls ?_; refine .go ?_; repeat constructor
    refine ES.condD rfl (fun hlt => ?_) (fun hge => ?_)
    · have hlt' : i < r.kids.length := by omega
      obtain ⟨k, hki⟩ : ∃ k, r.kids[i]? = some k := ⟨_, List.getElem?_eq_getElem hlt'⟩
      have hmem := List.mem_of_getElem? hki
      have hks := kids_lt hmem
      obtain ⟨kg, ko, rfl, hkn⟩ := hkids i k hki
      obtain ⟨kad, kcap, hkrd, hkk⟩ := hkn.kids
      have hkrd2 : Rd w w.heap.size (some ⟨kg, ko + i * 9, none⟩) (reCells k (.slice kad k.kids.length kcap)) := hkrd.rd
      rw [List.drop_eq_getElem_cons hlt', show r.kids[i] = k from (List.getElem?_eq_some_iff.1 hki).2, measL] at hgo
      have hrec := ih k (by omega) (fine_kid hfine hmem) kad kcap
      generalize measM k = n at hgo hrec
      refine .go ?_; (repeat constructor); refine EL.indexAddrL rfl rfl rfl rfl rfl rfl rfl (by omega) ?_
      refine EL.loadOldA (j := 0) (vs := reCells k (.slice kad k.kids.length kcap)) rfl rfl rfl rfl rfl (by simp [reCells]) rfl hkrd2 (fun i u hi => by rw [Nat.zero_add]; exact hi) ?_
      (refine .al ?_; intro g5); refine .sa ?_; refine .go ?_; (repeat constructor); refine .go ?_; (repeat constructor); refine .lg ?_
      refine EL.callPw rfl rfl rfl ent39 rfl (fun w' hs => hrec w' (fun i' k' hi' => by obtain ⟨g', o', e1, e2⟩ := hkk (by intro e; rw [e] at hi'; simp at hi'); exact ⟨g', o', e1, NodeRd.sat (e2 i' k' hi') hs⟩)) ?_
      (refine .al ?_; intro g6); refine .sa ?_; refine .go ?_; (repeat constructor); refine .go ?_; (repeat constructor); refine .fa ?_; refine .lb ?_; refine .fa ?_; refine .lb ?_; refine EL.add (w64 (m.pos + n.pos)) rfl rfl rfl rfl rfl ?_; refine .fa ?_; refine .sb ?_; refine .go ?_; (repeat constructor); refine .fa ?_; refine .lb ?_; refine .fa ?_; refine .lb ?_; refine EL.add (w64 (m.grp + n.grp)) rfl rfl rfl rfl rfl ?_; refine .fa ?_; refine .sb ?_; refine .go ?_; (repeat constructor); refine .fa ?_; refine .lb ?_; refine .fa ?_; refine .lb ?_; refine EL.add (w64 (m.least + n.least)) rfl rfl rfl rfl rfl ?_; refine .fa ?_; refine .sb ?_; refine .go ?_; (repeat constructor); refine .fa ?_; refine .lb ?_; refine .fa ?_; refine .lb ?_; refine EL.callP rfl rfl rfl ent60 rfl (more_c m.most n.most) ?_; refine .fa ?_; refine .sb ?_; refine .go ?_; repeat constructor
      refine EL.cutX (X := Unit) (fun _ => [(1, Pv g1 0), (2, Pv g2 0), (3, Pv g3 0), (9, .slice (some ⟨kg, ko, none⟩) r.kids.length cap), (10, Iv (r.kids.length : Nat)), (11, Iv (i : Nat)), (6, Pv g6 0)]) (fun _ => HA.blk g3 (.cells #[Iv (w64 (m.pos + n.pos)), Iv (w64 (m.grp + n.grp)), Iv (w64 (m.least + n.least)), Iv (moreM m.most n.most), .bool (m.back || n.back), .bool (m.bol), .bool (m.eol)] 66) :: HA.blk g6 (.cells n.cells.toArray 66) :: HA.blk g2 (.cells Me.zero.cells.toArray 66) :: HA.blk g1 (.cells (reCells r (.slice (some ⟨kg, ko, none⟩) r.kids.length cap)).toArray 46) :: []) ?_ (fun _ => ?_)
      · refine .go ?_; (repeat constructor); refine .fa ?_; refine .lb ?_; refine .mv ?_
        first | refine EL.splitD (d := 43) rfl (fun hp43 => ?_) (fun hp43 => ?_) | refine EL.splitN (d := 43) rfl (fun hp43 => ?_) (fun hp43 => ?_) | refine EL.splitB (d := 43) rfl (fun hp43 => ?_) (fun hp43 => ?_)
        · refine .ps ?_; refine .ps ?_; refine .pt ?_; refine .fa ?_; refine .sb ?_
          exact EL.endX () ⟨rfl, rfl, rfl, rfl, rfl, rfl, rfl, trivial⟩ (by rw [hp43]; exact (.i (by repeat constructor)))
        · refine .fa ?_; refine .lb ?_; refine .pf ?_; refine .fa ?_; refine .sb ?_
          exact EL.endX () ⟨rfl, rfl, rfl, rfl, rfl, rfl, rfl, trivial⟩ (by rw [hp43]; exact (.i (by repeat constructor)))
      refine .go ?_; repeat constructor
      refine EL.cutX (X := Unit) (fun _ => [(1, Pv g1 0), (2, Pv g2 0), (3, Pv g3 0), (9, .slice (some ⟨kg, ko, none⟩) r.kids.length cap), (10, Iv (r.kids.length : Nat)), (11, Iv (i : Nat)), (6, Pv g6 0)]) (fun _ => HA.blk g3 (.cells #[Iv (w64 (m.pos + n.pos)), Iv (w64 (m.grp + n.grp)), Iv (w64 (m.least + n.least)), Iv (moreM m.most n.most), .bool (m.back || n.back), .bool (m.bol || n.bol), .bool (m.eol)] 66) :: HA.blk g6 (.cells n.cells.toArray 66) :: HA.blk g2 (.cells Me.zero.cells.toArray 66) :: HA.blk g1 (.cells (reCells r (.slice (some ⟨kg, ko, none⟩) r.kids.length cap)).toArray 46) :: []) ?_ (fun _ => ?_)
      · refine .go ?_; (repeat constructor); refine .fa ?_; refine .lb ?_; refine .mv ?_
        first | refine EL.splitD (d := 50) rfl (fun hp50 => ?_) (fun hp50 => ?_) | refine EL.splitN (d := 50) rfl (fun hp50 => ?_) (fun hp50 => ?_) | refine EL.splitB (d := 50) rfl (fun hp50 => ?_) (fun hp50 => ?_)
        · refine .ps ?_; refine .ps ?_; refine .pt ?_; refine .fa ?_; refine .sb ?_
          exact EL.endX () ⟨rfl, rfl, rfl, rfl, rfl, rfl, rfl, trivial⟩ (by rw [hp50]; exact (.i (by repeat constructor)))
        · refine .fa ?_; refine .lb ?_; refine .pf ?_; refine .fa ?_; refine .sb ?_
          exact EL.endX () ⟨rfl, rfl, rfl, rfl, rfl, rfl, rfl, trivial⟩ (by rw [hp50]; exact (.i (by repeat constructor)))
      refine .go ?_; repeat constructor
      refine EL.cutX (X := Unit) (fun _ => [(1, Pv g1 0), (2, Pv g2 0), (3, Pv g3 0), (9, .slice (some ⟨kg, ko, none⟩) r.kids.length cap), (10, Iv (r.kids.length : Nat)), (11, Iv (i : Nat)), (6, Pv g6 0)]) (fun _ => HA.blk g3 (.cells #[Iv (w64 (m.pos + n.pos)), Iv (w64 (m.grp + n.grp)), Iv (w64 (m.least + n.least)), Iv (moreM m.most n.most), .bool (m.back || n.back), .bool (m.bol || n.bol), .bool (m.eol || n.eol)] 66) :: HA.blk g6 (.cells n.cells.toArray 66) :: HA.blk g2 (.cells Me.zero.cells.toArray 66) :: HA.blk g1 (.cells (reCells r (.slice (some ⟨kg, ko, none⟩) r.kids.length cap)).toArray 46) :: []) ?_ (fun _ => ?_)
      · refine .go ?_; (repeat constructor); refine .fa ?_; refine .lb ?_; refine .mv ?_
        first | refine EL.splitD (d := 57) rfl (fun hp57 => ?_) (fun hp57 => ?_) | refine EL.splitN (d := 57) rfl (fun hp57 => ?_) (fun hp57 => ?_) | refine EL.splitB (d := 57) rfl (fun hp57 => ?_) (fun hp57 => ?_)
        · refine .ps ?_; refine .ps ?_; refine .pt ?_; refine .fa ?_; refine .sb ?_
          exact EL.endX () ⟨rfl, rfl, rfl, rfl, rfl, rfl, rfl, trivial⟩ (by rw [hp57]; exact (.i (by repeat constructor)))
        · refine .fa ?_; refine .lb ?_; refine .pf ?_; refine .fa ?_; refine .sb ?_
          exact EL.endX () ⟨rfl, rfl, rfl, rfl, rfl, rfl, rfl, trivial⟩ (by rw [hp57]; exact (.i (by repeat constructor)))
      refine .go ?_; (repeat constructor); refine .a1 ?_; refine .mv ?_; refine .go ?_; repeat constructor
      exact .ly ⟨i + 1, m.plus n⟩ ⟨hlt', hgo⟩ (by simp only; omega)
    · obtain rfl : i = r.kids.length := by omega
      rw [List.drop_length, measL] at hgo
      subst hgo
      refine .go ?_; (repeat constructor); refine .fa ?_; refine .lb ?_
      repeat (first | apply EL.nil | apply ES.seq | apply ES.skip)
      refine ES.cutC (X := Unit) (fun _ => [(1, Pv g1 0), (2, Pv g2 0), (3, Pv g3 0)]) (fun _ => HA.blk g3 (.cells (finM r.kind r.lo r.hi m).cells.toArray 66) :: HA.blk g2 (.cells Me.zero.cells.toArray 66) :: HA.blk g1 (.cells (reCells r (.slice ad r.kids.length cap)).toArray 46) :: []) ?_ (fun _ => ?_)
      · refine .go ?_; (repeat constructor); refine .ei ?_; refine .as_ ?_; refine .go ?_; repeat constructor
        refine ES.condD rfl (fun h1 => ?_) (fun h1 => ?_)
        · have hk : r.kind = 1 := by have h : ((r.kind : Nat) : Int) = 1 := h1; omega
          have e : finM r.kind r.lo r.hi m = { m with pos := 1, least := 1, most := 1 } := by rw [hk]; rfl
          rw [e]
          refine .go ?_; (repeat constructor); refine .fa ?_; refine .sb ?_; refine .fa ?_; refine .sb ?_; refine .fa ?_; refine .sb ?_; refine .go ?_; repeat constructor
          exact .cy ()
        have hk1 : ¬ r.kind = 1 := by have h : ¬ ((r.kind : Nat) : Int) = 1 := h1; omega
        refine .go ?_; (repeat constructor); refine .ei ?_; refine .as_ ?_; refine .go ?_; repeat constructor
        refine ES.condD rfl (fun h2 => ?_) (fun h2 => ?_)
        · have hk : r.kind = 2 := by have h : ((r.kind : Nat) : Int) = 2 := h2; omega
          have e : finM r.kind r.lo r.hi m = { m with bol := true } := by rw [hk]; rfl
          rw [e]
          refine .go ?_; (repeat constructor); refine .fa ?_; refine .sb ?_; refine .go ?_; repeat constructor
          exact .cy ()
        have hk2 : ¬ r.kind = 2 := by have h : ¬ ((r.kind : Nat) : Int) = 2 := h2; omega
        refine .go ?_; (repeat constructor); refine .ei ?_; refine .as_ ?_; refine .go ?_; repeat constructor
        refine ES.condD rfl (fun h3 => ?_) (fun h3 => ?_)
        · have hk : r.kind = 3 := by have h : ((r.kind : Nat) : Int) = 3 := h3; omega
          have e : finM r.kind r.lo r.hi m = { m with eol := true } := by rw [hk]; rfl
          rw [e]
          refine .go ?_; (repeat constructor); refine .fa ?_; refine .sb ?_; refine .go ?_; repeat constructor
          exact .cy ()
        have hk3 : ¬ r.kind = 3 := by have h : ¬ ((r.kind : Nat) : Int) = 3 := h3; omega
        refine .go ?_; (repeat constructor); refine .ei ?_; refine .as_ ?_; refine .go ?_; repeat constructor
        refine ES.condD rfl (fun h4 => ?_) (fun h4 => ?_)
        · have hk : r.kind = 4 := by have h : ((r.kind : Nat) : Int) = 4 := h4; omega
          have e : finM r.kind r.lo r.hi m = { m with grp := w64 (m.grp + 1) } := by rw [hk]; rfl
          rw [e]
          refine .go ?_; (repeat constructor); refine .fa ?_; refine .lb ?_; refine EL.add (w64 (m.grp + 1)) rfl rfl rfl rfl rfl ?_; refine .fa ?_; refine .sb ?_; refine .go ?_; repeat constructor
          exact .cy ()
        have hk4 : ¬ r.kind = 4 := by have h : ¬ ((r.kind : Nat) : Int) = 4 := h4; omega
        refine .go ?_; (repeat constructor); refine .ei ?_; refine .as_ ?_; refine .go ?_; repeat constructor
        refine ES.condD rfl (fun h6 => ?_) (fun h6 => ?_)
        · have hk : r.kind = 6 := by have h : ((r.kind : Nat) : Int) = 6 := h6; omega
          have e : finM r.kind r.lo r.hi m = { m with pos := 1, most := -1, back := true } := by rw [hk]; rfl
          rw [e]
          refine .go ?_; (repeat constructor); refine .fa ?_; refine .sb ?_; refine .fa ?_; refine .sb ?_; refine .fa ?_; refine .sb ?_; refine .go ?_; repeat constructor
          exact .cy ()
        have hk6 : ¬ r.kind = 6 := by have h : ¬ ((r.kind : Nat) : Int) = 6 := h6; omega
        refine .go ?_; (repeat constructor); refine .ei ?_; refine .as_ ?_; refine .go ?_; repeat constructor
        refine ES.condD rfl (fun h5 => ?_) (fun h5 => ?_)
        rotate_left
        · have hk5 : ¬ r.kind = 5 := by have h : ¬ ((r.kind : Nat) : Int) = 5 := h5; omega
          have e : finM r.kind r.lo r.hi m = m := by unfold finM; rw [if_neg hk1, if_neg hk2, if_neg hk3, if_neg hk4, if_neg hk6, if_neg hk5]
          rw [e]
          refine .go ?_; repeat constructor
          exact .cy ()
        have hk : r.kind = 5 := by have h : ((r.kind : Nat) : Int) = 5 := h5; omega
        have e : finM r.kind r.lo r.hi m = { m with pos := w64 (m.pos * timesI r.lo r.hi), least := w64 (m.least * r.lo), most := manyM m.most r.hi } := by rw [hk]; rfl
        rw [e]
        refine .go ?_; (repeat constructor); refine .fa ?_; refine .lb ?_; refine .as_ ?_; refine .go ?_; (repeat constructor); refine .mv ?_; refine .ls ?_; refine .go ?_; repeat constructor
        refine ES.cutC (X := Unit) (fun _ => [(1, Pv g1 0), (2, Pv g2 0), (3, Pv g3 0), (7, Iv (timesI r.lo r.hi))]) (fun _ => HA.blk g3 (.cells m.cells.toArray 66) :: HA.blk g2 (.cells Me.zero.cells.toArray 66) :: HA.blk g1 (.cells (reCells r (.slice ad r.kids.length cap)).toArray 46) :: []) ?_ (fun _ => ?_)
        · refine ES.condD rfl (fun hneg => ?_) (fun hpos => ?_)
          · refine .go ?_; (repeat constructor); refine .fa ?_; refine .lb ?_
            refine EL.ofRV (RV.maxI rfl rfl) rfl rfl rfl (by intro c h; cases h) ?_
            refine .as_ ?_; refine .go ?_; repeat constructor
            exact .cx () ⟨rfl, rfl, rfl, getA rfl (congrArg Iv (by unfold timesI; rw [if_pos hneg])), trivial⟩
          · refine .go ?_; repeat constructor
            exact .cx () ⟨rfl, rfl, rfl, getA rfl (congrArg Iv (by unfold timesI; rw [if_neg hpos])), trivial⟩
        refine .go ?_; (repeat constructor); refine .fa ?_; refine .lb ?_; refine .mv ?_; refine EL.mul (w64 (m.pos * timesI r.lo r.hi)) rfl rfl rfl rfl rfl ?_; refine .fa ?_; refine .sb ?_; refine .go ?_; (repeat constructor); refine .fa ?_; refine .lb ?_; refine .fa ?_; refine .lb ?_; refine EL.mul (w64 (m.least * r.lo)) rfl rfl rfl rfl rfl ?_; refine .fa ?_; refine .sb ?_; refine .go ?_; (repeat constructor); refine .fa ?_; refine .lb ?_; refine .fa ?_; refine .lb ?_; refine EL.callP rfl rfl rfl ent61 rfl (many_c m.most r.hi) ?_; refine .fa ?_; refine .sb ?_; refine .go ?_; repeat constructor
        exact .cy ()
      refine .go ?_; (repeat constructor); refine .lg ?_; refine .sa ?_; refine .go ?_; repeat constructor
      exact PX.ret rfl Tryz.results39 (.cons (.blkA rfl rfl rfl (by repeat constructor) rfl) .nil) (fun w hs => ⟨(), rfl, hs.ent (.i (by repeat constructor))⟩)
theorem meas_c (r : RE) (hf : r.fine) (ad : Option Addr) (cap : Nat) (w : World) (h : KidsRd w w.heap.size r.kids ad) : Pure Tryz.prog 39 #[.agg (reCells r (.slice ad r.kids.length cap)).toArray] (fun _ : Unit => .agg (measM r).cells.toArray) (fun _ => []) w := of_n r.sz r (Nat.le_refl _) hf ad cap w h
def ofM (t : List UInt8) : Me × Int × Nat := if (parseM t).e ≠ 0 then (Me.zero, (parseM t).e, (parseM t).at_) else (measM (parseM t).tree, 0, 0)
theorem measOf_c (t : List UInt8) (ht : t.length ≤ 4611686018427387904) (w : World) (hG : GR w w.heap.size) :
    Pure Tryz.prog 21 #[Sv t] (fun _ : Unit => .tuple #[.agg (ofM t).1.cells.toArray, .agg #[Iv (ofM t).2.1, Iv ((ofM t).2.2 : Nat)]]) (fun _ => []) w := by
  have hw : ofM t = if (parseM t).e ≠ 0 then (Me.zero, (parseM t).e, (parseM t).at_) else (measM (parseM t).tree, 0, 0) := rfl
  have hpf := parse_fine t
  have hpc := fun w hG => parse_c t ht w hG
  generalize parseM t = p at hw hpf hpc
  obtain ⟨tree, pe, pat⟩ := p
  dsimp only at hw hpf hpc
  refine calls_of_ES TB Tryz.func21 rfl _ Tryz.ntmps21 rfl (Sat.start w) ?_; refine .go ?_; (repeat constructor); (refine .al ?_; intro g2); (refine .al ?_; intro g3); refine .go ?_; (repeat constructor); refine .mv ?_; (refine EL.callXw rfl rfl rfl ent20 rfl (fun w hs => hpc w (GR.sat hG hs)) ?_; intro px); refine .mv ?_; refine .ex ?_; refine .ex ?_; (refine .al ?_; intro g4); (refine .al ?_; intro g5); refine .sa ?_; refine .sa ?_; refine .go ?_; (repeat constructor); refine .go ?_; (repeat constructor); refine .fa ?_; refine .lb ?_; refine .ni ?_; refine .go ?_; repeat constructor
  refine ES.condN rfl (fun hne => ?_) (fun he => ?_)
  · rw [if_pos hne] at hw
    rw [hw]
    refine .g0 ?_; repeat constructor
    refine ES.draw (X := Unit) (fun _ => [(2, Pv g2 0), (3, Pv g3 0)]) (fun _ => HA.blk g2 (.cells Me.zero.cells.toArray 66) :: HA.blk g3 (.cells #[Iv pe, Iv (pat : Nat)] 33) :: []) (HA.blk g5 (.cells #[Iv pe, Iv (pat : Nat)] 33) :: []) mixed (.i (by repeat constructor)) ?_ (fun _ => ?_)
    · refine .tk 1 rfl (RV.loadAggB rfl rfl rfl (by repeat constructor) rfl) ?_; refine .ld 0 ?_; refine EL.buildZ rfl rfl rfl rfl rfl ?_; refine .nx ?_; refine .ld 2 ?_; refine .sa ?_; refine .nx ?_; refine ED.last 3 rfl (by decide +kernel) (by decide +kernel) (by decide +kernel) ?_; refine .sa ?_; refine EL.endQ ?_
      exact .cy ()
    refine .go ?_; repeat constructor
    exact PX.ret rfl Tryz.results21 (.cons (.blkA rfl rfl rfl (by repeat constructor) rfl) (.cons (.blkA rfl rfl rfl (by repeat constructor) rfl) .nil)) (fun w hs => ⟨(), rfl, hs.ent (.i (by repeat constructor))⟩)
  rw [if_neg (fun h => h he)] at hw
  rw [hw]
  refine .go ?_; (repeat constructor); refine .lg ?_; refine EL.callPw rfl rfl rfl ent39 rfl (fun w hs => meas_c tree hpf px.ad px.cap w (kids_of hs (by repeat constructor))) ?_; refine EL.buildZ rfl rfl rfl rfl rfl ?_; refine .sa ?_; refine .sa ?_; refine .go ?_; repeat constructor
  exact PX.ret rfl Tryz.results21 (.cons (.blkA rfl rfl rfl (by repeat constructor) rfl) (.cons (.blkA rfl rfl rfl (by repeat constructor) rfl) .nil)) (fun w hs => ⟨(), rfl, hs.ent (.i (by repeat constructor))⟩)
end Go.Proofs.YthcbjbkheodejaaGreat
namespace Go.Proofs.YthcbjbkheodejaaGreat
open Go Go.RowKit Sl
set_option maxRecDepth 100000
set_option maxHeartbeats 8000000
attribute [local irreducible] ES EL PX wps
abbrev Spn := Int × Int
structure SS where
  spans : List Spn
  steps : Nat
inductive WT where
  | one (r : RE)
  | cat (ks : List RE)
  | rep (lo : Nat) (hi : Int) (k : RE) (times : Nat)
def cutS (s : List UInt8) (hd tl : List RE) (i j st : Nat) : Option (Nat × Nat) :=
  if st ≤ 576460752303423488 ∧ costL hd + 1 ≤ 131072 ∧ costL tl + 1 ≤ 131072 ∧ i ≤ j ∧ j ≤ s.length then
    match splL s hd tl i j st with
    | [] => none
    | p :: _ => some (p, (splS s hd tl i j st).steps)
  else none
def walkM (s : List UInt8) : Nat → WT → Nat → Nat → SS → Option SS
  | 0, _, _, _, _ => none
  | f + 1, .one (.group n k), i, j, z => if n < z.spans.length then walkM s f (.one k) i j { z with spans := z.spans.set n ((i : Int), (j : Int)) } else none
  | f + 1, .one (.cat ks), i, j, z => walkM s f (.cat ks) i j z
  | f + 1, .one (.rep lo hi k), i, j, z => walkM s f (.rep lo hi k 0) i j z
  | _ + 1, .one _, _, _, z => some z
  | _ + 1, .cat [], _, _, z => some z
  | f + 1, .cat [k], i, j, z => walkM s f (.one k) i j z
  | f + 1, .cat (k :: k' :: ks), i, j, z =>
    match cutS s [k] (k' :: ks) i j z.steps with
    | none => none
    | some (e, st) =>
      match walkM s f (.one k) i e { z with steps := st } with
      | none => none
      | some z' => walkM s f (.cat (k' :: ks)) e j z'
  | f + 1, .rep lo hi k t, i, j, z =>
    if i = j then (if t < leastM lo k then walkM s f (.one k) j j z else some z)
    else if 1000000 < t then none
    else
      match cutS s [k] [leftM lo hi k (t + 1)] i j z.steps with
      | none => none
      | some (e, st) =>
        match walkM s f (.one k) i e { z with steps := st } with
        | none => none
        | some z' => walkM s f (.rep lo hi k (t + 1)) e j z'
def lastT (m : List Bool) (i n : Nat) : Option Nat := (dnL i n).find? fun p => m.getD p false
def findM (s : List UInt8) (A : AM × Nat) : Nat → Nat → Nat → Option (Option (Nat × Nat) × Nat)
  | 0, _, st => some (none, st)
  | n + 1, i, st =>
    if st ≤ 576460752303423488 then
      match lastT (endsM A s i st).marks i (s.length + 1 - i) with
      | some j => some (some (i, j), (endsM A s i st).steps)
      | none => findM s A n (i + 1) (endsM A s i st).steps
    else none
structure MR where
  spans : List Spn
  ok : Bool
  steps : Nat
  e : Int
def setGo (F : Nat) (s : List UInt8) (r : RE) (grp : Nat) (i : Nat) : Option MR :=
  if costL [r] + 1 ≤ 131072 then
    match findM s (makeM [r]) (s.length + 1 - i) i 0 with
    | none => none
    | some (none, st) => some ⟨[], false, st, 0⟩
    | some (some (a, b), st) =>
      match walkM s F (.one r) a b ⟨(List.replicate (grp + 1) (-1, -1)).set 0 ((a : Int), (b : Int)), st⟩ with
      | none => none
      | some z => some ⟨z.spans, true, z.steps, 0⟩
  else none
def setM (F : Nat) (t s : List UInt8) (a : Int) : Option MR :=
  if (parseM t).e ≠ 0 then some ⟨[], false, 0, (parseM t).e⟩
  else if (measM (parseM t).tree).back = true then some ⟨[], false, 0, 11⟩
  else if 1024 < s.length then some ⟨[], false, 0, 15⟩
  else if a < 0 ∨ (s.length : Int) < a then some ⟨[], false, 0, 1⟩
  else if (measM (parseM t).tree).grp < 0 ∨ 9 < (measM (parseM t).tree).grp then none
  else setGo F s (parseM t).tree (measM (parseM t).tree).grp.toNat a.toNat
theorem set_awake : (setM 60 [92, 40, 92, 40, 97, 92, 41, 42, 98, 92, 41, 42] [97, 97, 98, 98] 0).map (fun m => (m.spans, m.ok, m.e, decide (4 ≤ m.steps))) = some ([(0, 4), (3, 4), (1, 2)], true, 0, true) := by decide +kernel
end Go.Proofs.YthcbjbkheodejaaGreat
namespace Go.Proofs.YthcbjbkheodejaaGreat
open Go Go.RowKit Sl
set_option maxRecDepth 100000
set_option maxHeartbeats 8000000
attribute [local irreducible] ES EL PX wps
def spC (p : Spn) : List Value := [Iv p.1, Iv p.2]
def spsC (l : List Spn) : List Value := l.flatMap spC
theorem spsC_len : ∀ l : List Spn, (spsC l).length = l.length * 2
  | [] => rfl
  | p :: l => by
    have := spsC_len l
    simp only [spsC, List.flatMap_cons, List.length_append, List.length_cons] at this ⊢
    rw [this]; simp only [spC, List.length_cons, List.length_nil]; omega
theorem spsC_app (l l' : List Spn) : spsC (l ++ l') = spsC l ++ spsC l' := by simp [spsC]
theorem spsC_set (l : List Spn) (n : Nat) (hn : n < l.length) (p : Spn) : putAt (spsC l) (0 + n * 2) (spC p) = spsC (l.set n p) := by
  have e : l = l.take n ++ l[n] :: l.drop (n + 1) := by rw [List.getElem_cons_drop, List.take_append_drop]
  have e2 : l.set n p = l.take n ++ p :: l.drop (n + 1) := by
    rw [List.set_eq_take_append_cons_drop, if_pos hn]
  have hl : (spsC (l.take n)).length = n * 2 := by rw [spsC_len, List.length_take, Nat.min_eq_left (by omega)]
  have e3 : spsC l = spsC (l.take n) ++ (spC l[n] ++ spsC (l.drop (n + 1))) := by
    conv => lhs; rw [e]
    rw [spsC_app]; rfl
  rw [e2, e3, Nat.zero_add]
  unfold putAt
  rw [← hl, List.take_left, List.drop_append, List.drop_of_length_le (by simp [spC]), List.nil_append]
  rw [spsC_app]
  have e4 : (spsC (l.take n)).length + (spC p).length - (spsC (l.take n)).length = (spC l[n]).length := by simp [spC]
  rw [e4, List.drop_left]
  show _ = spsC (l.take n) ++ (spC p ++ spsC (l.drop (n + 1)))
  rw [List.append_assoc]
abbrev PRow (sp : Option Addr) (cap : Nat) (l : List Spn) : HA := HA.row (.slice sp l.length cap) 29 2 l.length (spsC l)
abbrev SH (gs : Nat) (s : List UInt8) (sp : Option Addr) (cap : Nat) (z : SS) : List HA := [WB gs s z.steps [.slice sp z.spans.length cap] 73, PRow sp cap z.spans]
theorem kind_4 {r : RE} (h : r.kind = 4) : ∃ n k, r = .group n k := by cases r <;> first | (simp [RE.kind] at h; done) | exact ⟨_, _, rfl⟩
theorem kind_0 {r : RE} (h : r.kind = 0) : ∃ ks, r = .cat ks := by cases r <;> first | (simp [RE.kind] at h; done) | exact ⟨_, rfl⟩
theorem splits_c1 (gs : Nat) (s : List UInt8) (hs : s.length ≤ 1024) (st0 : Nat) (rest : List Value) (ty : TypeId) (hd tl : List RE) (hdf : ∀ k ∈ hd, k.fine) (tlf : ∀ k ∈ tl, k.fine) (hdl : hd.length ≤ 1024) (tll : tl.length ≤ 1024)
    (n1 n2 : Nat) (hn1 : n1 = hd.length) (hn2 : n2 = tl.length) (had tad : Option Addr) (hcap tcap : Nat) (i j e st : Nat) (hc : cutS s hd tl i j st0 = some (e, st)) (w0 : World) (B : Nat) (T : HA) (hh : RowRd w0 B T had hd) (ht : RowRd w0 B T tad tl) :
    ∃ l, e ≤ s.length ∧ MutAt Tryz.prog 67 #[Pv gs 0, .slice had n1 hcap, .slice tad n2 tcap, Iv (i : Nat), Iv (j : Nat)] [WB gs s st0 rest ty, T] (fun z : Nat × Nat => .slice (some ⟨z.1, 0, none⟩) (l + 1) z.2)
      (fun z => [HA.row (.slice (some ⟨z.1, 0, none⟩) (l + 1) z.2) 3 1 (l + 1) (Iv (e : Nat) :: (splL s hd tl i j st0).tail.map fun z : Nat => Iv (z : Nat)), WB gs s st rest ty, T]) w0 B := by
  subst hn1 hn2
  unfold cutS at hc
  split at hc
  · rename_i hcond
    obtain ⟨c1, c2, c3, c4, c5⟩ := hcond
    have hsp := splits_c gs s hs st0 c1 rest ty hd tl hdf tlf hdl tll c2 c3 had tad hcap tcap i j c4 c5 w0 B T hh ht
    cases hL : splL s hd tl i j st0 with
    | nil => rw [hL] at hc; cases hc
    | cons p l =>
      rw [hL] at hc hsp
      simp only [Option.some.injEq, Prod.mk.injEq] at hc
      obtain ⟨rfl, rfl⟩ := hc
      refine ⟨l.length, ?_, fun R w h => (hsp R w h).mono fun en w' ⟨x, he, hs'⟩ => ?_⟩
      · have hm : p ∈ splL s hd tl i j st0 := by rw [hL]; simp
        have hm2 : p ∈ dnL i (j + 1 - i) := (List.mem_filter.1 hm).1
        have : ∀ n, p ∈ dnL i n → p < i + n := fun n => by
          induction n with
          | zero => intro h; cases h
          | succ n ih =>
            intro h
            rcases List.mem_cons.1 h with h | h
            · omega
            · have := ih h; omega
        have := this _ hm2
        omega
      · obtain ⟨xa, xc⟩ := x
        obtain ⟨g, rfl⟩ := (row_form (hs'.all (IR xa xc (p :: l)) (by simp))).2.2.2.2 (by simp)
        exact ⟨(g, xc), he, hs'⟩
  · cases hc
theorem MutAt.noEmp {X : Type} {P : Program} {f : FuncId} {argv : Array Value} {A : HA} {val : X → Value} {HX : X → List HA} {w0 : World} {B : Nat} (h : MutAt P f argv [A, HA.emp] val (fun x => HX x ++ [HA.emp]) w0 B) : MutAt P f argv [A] val HX w0 B := fun R w hs =>
  (h R w (Sat.perm (H := HA.emp :: A :: R) (Sat.emp hs) (.swap ..))).mono fun en w' ⟨x, he, hs'⟩ => ⟨x, he, by
    have k1 : Sat w0 B (HX x ++ (HA.emp :: R)) w' := by
      have := hs'
      rw [List.append_assoc] at this
      exact this
    exact Sat.dropMid k1⟩
theorem kids_drop {w0 : World} {B : Nat} {ks : List RE} {kg ko : Nat} (h : KidsRd w0 B ks (some ⟨kg, ko, none⟩)) (i : Nat) (l : List RE) (hl : ∀ j k, l[j]? = some k → ks[i + j]? = some k) (T : HA) : RowRd w0 B T (some ⟨kg, ko + i * 9, none⟩) l := fun w H hs j k hj => by
  obtain ⟨g, o, e, hn⟩ := h (i + j) k (hl j k hj)
  cases e
  refine ⟨kg, ko + i * 9, rfl, ?_⟩
  have := NodeRd.sat hn hs
  rw [Nat.add_mul, ← Nat.add_assoc] at this
  exact this
theorem left_fine {lo : Nat} {hi : Int} {k : RE} (h : (RE.rep lo hi k).fine) (t : Nat) : (leftM lo hi k t).fine := by
  obtain ⟨h1, h2, h3, h4, h5⟩ := h
  have hl := least_le lo k
  unfold leftM leftLo
  by_cases hp : 0 ≤ hi
  · have := h4 hp
    rw [if_pos hp]
    exact ⟨by omega, by omega, by omega, fun _ => by omega, h5⟩
  · rw [if_neg hp]
    exact ⟨by omega, by omega, by omega, fun h => by omega, h5⟩
theorem rowRd_one {w0 : World} {B b : Nat} {r : RE} {ad : Option Addr} {cap : Nat} {cs0 : List Value} (h2 : Forest (· < B) w0 r.kids cs0) (h3 : Reads (· < B) w0 ad cs0) (h4 : r.kids.length ≤ cap) :
    RowRd w0 B (HA.row (.slice (some ⟨b, 0, none⟩) 1 1) 46 9 1 (reCells r (.slice ad r.kids.length cap))) (some ⟨b, 0, none⟩) [r] := fun w H hs i k' hi => by
  have hi0 : i = 0 := by
    rcases i with _ | i
    · rfl
    · simp at hi
  subst hi0
  simp only [List.getElem?_cons_zero, Option.some.injEq] at hi
  subst hi
  refine ⟨b, 0, rfl, ?_⟩
  have hrow : w.ownsRow 0 46 9 (.slice (some ⟨b, 0, none⟩) 1 1) 1 (reCells r (.slice ad r.kids.length cap)) := hs.head
  have hlt : b < w.heap.size := (hs.lo b (by rw [fps_cons]; simp [HA.row, Value.ownBlock])).2
  have hB : ∀ g, g < B → w.heap[g]? = w0.heap[g]? := fun g hg => hs.below.block g hg
  refine ⟨ad, cap, cs0, fun _ => ⟨b, 0, rfl, hlt, ?_⟩, ?_, ?_, h4⟩
  · exact row_reads hrow
  · exact (h2.loc (fun g hg => hB g hg)).mono (fun g hg => Nat.lt_of_lt_of_le hg hs.base)
  · exact (h3.loc (fun g hg => hB g hg)).mono (fun g hg => Nat.lt_of_lt_of_le hg hs.base)
theorem rowRd_left {w0 : World} {B b : Nat} {lo : Nat} {hi : Int} {k : RE} {ad : Option Addr} {cap t : Nat} {cs0 : List Value} (h2 : Forest (· < B) w0 [k] cs0) (h3 : Reads (· < B) w0 ad cs0) (h4 : 1 ≤ cap) :
    RowRd w0 B (HA.row (.slice (some ⟨b, 0, none⟩) 1 1) 46 9 1 (reCells (leftM lo hi k t) (.slice ad 1 cap))) (some ⟨b, 0, none⟩) [leftM lo hi k t] := rowRd_one (r := leftM lo hi k t) h2 h3 h4
section walks
variable (w0 : World) (B gs : Nat) (s : List UInt8) (sp : Option Addr) (cap : Nat)
abbrev WkA (f : Nat) : Prop := ∀ r : RE, r.fine → ∀ g off, NodeRd w0 B g off r → ∀ (i j : Nat) (z z' : SS), i ≤ s.length → j ≤ s.length → walkM s f (.one r) i j z = some z' →
  MutAt Tryz.prog 24 #[Pv gs 0, Pv g off, Iv (i : Nat), Iv (j : Nat)] (SH gs s sp cap z) (fun _ : Unit => .tuple #[]) (fun _ => SH gs s sp cap z') w0 B
abbrev WkB (f : Nat) : Prop := ∀ ks : List RE, (∀ k ∈ ks, k.fine) → ks.length ≤ 1024 → ∀ (ad : Option Addr) (kcap : Nat), KidsRd w0 B ks ad → ks.length ≤ kcap → ∀ (i j : Nat) (z z' : SS), i ≤ s.length → j ≤ s.length → walkM s f (.cat ks) i j z = some z' →
  MutAt Tryz.prog 43 #[Pv gs 0, .slice ad ks.length kcap, Iv (i : Nat), Iv (j : Nat)] (SH gs s sp cap z) (fun _ : Unit => .tuple #[]) (fun _ => SH gs s sp cap z') w0 B
abbrev WkC (f : Nat) : Prop := ∀ (lo : Nat) (hi : Int) (k : RE), (RE.rep lo hi k).fine → ∀ g off, NodeRd w0 B g off (.rep lo hi k) → ∀ (i j : Nat) (z z' : SS), i ≤ s.length → j ≤ s.length → walkM s f (.rep lo hi k 0) i j z = some z' →
  MutAt Tryz.prog 44 #[Pv gs 0, Pv g off, Iv (i : Nat), Iv (j : Nat)] (SH gs s sp cap z) (fun _ : Unit => .tuple #[]) (fun _ => SH gs s sp cap z') w0 B
variable {w0 B gs s sp cap}
theorem setWalk_A {N : Nat} (hA : ∀ f, f < N → WkA w0 B gs s sp cap f) (hB : ∀ f, f < N → WkB w0 B gs s sp cap f) (hC : ∀ f, f < N → WkC w0 B gs s sp cap f) : WkA w0 B gs s sp cap N := by
  intro r hf g off hn i j z z' hi hj hz R w h
  replace h : Sat w0 B (WB gs s z.steps [.slice sp z.spans.length cap] 73 :: PRow sp cap z.spans :: R) w := h
  obtain ⟨ad, kcap, hrd, hkids, hkc⟩ := hn.kids2
  have hrd := hrd.rd
  have hkl := fine_len hf
  obtain ⟨n, rfl⟩ : ∃ n, N = n + 1 := by
    cases N with
    | zero => rw [walkM] at hz; cases hz
    | succ n => exact ⟨n, rfl⟩
  refine calls_of_ES TB Tryz.func24 rfl _ Tryz.ntmps24 rfl h ?_; refine .go ?_; (repeat constructor); refine .mv ?_; refine .nc ?_; refine .fa ?_; refine EL.loadOld rfl rfl rfl rfl rfl hrd rfl ?_
  repeat (first | apply EL.nil | apply ES.seq | apply ES.skip)
  refine .go ?_; (repeat constructor); refine .ei ?_; refine .as_ ?_; refine .go ?_; repeat constructor
  refine ES.condD rfl (fun h4 => ?_) (fun h4 => ?_)
  · obtain ⟨gn, k, rfl⟩ := kind_4 (show r.kind = 4 by omega)
    rw [walkM] at hz
    split at hz
    · rename_i hlt
      obtain ⟨g', o', rfl, hkn⟩ := hkids 0 k rfl
      have hrec := hA n (by omega) k hf.2 g' (o' + 0 * 9) hkn i j _ _ hi hj hz
      have hsl := spsC_len z.spans
      obtain ⟨spg, rfl⟩ := (row_form (h.all (PRow sp cap z.spans) (by simp))).2.2.2.2 (by omega)
      refine .g0 ?_; repeat constructor
      refine ES.draw (X := Unit) (fun _ => [(0, Pv gs 0), (1, Pv g off), (2, Iv (i : Nat)), (3, Iv (j : Nat))]) (fun _ => WB gs s z.steps [.slice (some ⟨spg, 0, none⟩) z.spans.length cap] 73 :: HA.row (.slice (some ⟨spg, 0, none⟩) z.spans.length cap) 29 2 z.spans.length (spsC (z.spans.set gn ((i : Int), (j : Int)))) :: R)
        (WB gs s z.steps [.slice (some ⟨spg, 0, none⟩) z.spans.length cap] 73 :: []) mixed (.i (by repeat constructor)) ?_ (fun _ => ?_)
      · refine .tk 0 rfl (RV.move rfl) ?_; refine .tk 1 rfl (RV.nilCheck rfl) ?_; refine .tk 2 rfl (RV.fieldAddr rfl rfl rfl rfl rfl rfl) ?_; refine .tk 3 rfl (RV.loadB rfl rfl rfl (by repeat constructor) rfl) ?_; refine .tk 4 rfl (RV.move rfl) ?_; refine .tk 5 rfl (RV.nilCheck rfl) ?_; refine .tk 6 rfl (RV.fieldAddr rfl rfl rfl rfl rfl rfl) ?_; refine .tk 7 rfl (RV.loadOld rfl rfl rfl hrd rfl) ?_; refine .tk 8 rfl (RV.move rfl) ?_; refine .tk 9 rfl (RV.move rfl) ?_; refine .tk 10 rfl (RV.buildS #[Iv (i : Nat), Iv (j : Nat)] rfl rfl rfl rfl (by kernel_rfl)) ?_; refine .tk 11 rfl (RV.indexAddrL (i := gn) rfl rfl rfl rfl rfl hlt) ?_; refine ED.last 12 rfl (by decide +kernel) (by decide +kernel) (by decide +kernel) ?_
        (refine EL.storeRA (vs := spC ((i : Int), (j : Int))) rfl rfl rfl rfl rfl (by repeat constructor) (by rw [hsl]; show 0 + gn * 2 + 2 ≤ _; omega) (all1 rfl) ?_; refine EL.rowEq (v := .slice (some ⟨spg, 0, none⟩) z.spans.length cap) (by repeat constructor) (spsC_set z.spans gn hlt ((i : Int), (j : Int))) ?_)
        refine EL.endQ ?_
        exact .cy ()
      refine ES.imp (H' := SH gs s (some ⟨spg, 0, none⟩) cap { z with spans := z.spans.set gn ((i : Int), (j : Int)) } ++ R) (fun w hs => ?_) ?_
      · unfold SH PRow
        dsimp only
        rw [List.length_set]
        exact hs.ent (.i (by repeat constructor))
      refine .go ?_; (repeat constructor); refine .mv ?_; refine .mv ?_; refine .nc ?_; refine .fa ?_; refine EL.loadOld rfl rfl rfl rfl rfl hrd rfl ?_; refine EL.indexAddrL (i := 0) rfl rfl rfl rfl rfl rfl rfl (by simp [RE.kids]) ?_; refine .mv ?_; refine .mv ?_; (refine EL.callMw rfl rfl rfl ent24 rfl hrec (by repeat constructor) ?_; intro x); refine .go ?_; repeat constructor
      exact PX.end rfl Tryz.results24 .nil (fun w hs => ⟨(), rfl, hs.ent (.i (by repeat constructor))⟩)
    · cases hz
  refine .go ?_; (repeat constructor); refine .ei ?_; refine .as_ ?_; refine .go ?_; repeat constructor
  refine ES.condD rfl (fun h0 => ?_) (fun h0 => ?_)
  · obtain ⟨ks, rfl⟩ := kind_0 (show r.kind = 0 by omega)
    rw [walkM] at hz
    have hrec := hB n (by omega) ks ((fineL_iff _).1 hf.2) hf.1 ad kcap (fun i k hi => hkids i k hi) hkc i j _ _ hi hj hz
    refine .go ?_; (repeat constructor); refine .mv ?_; refine .mv ?_; refine .nc ?_; refine .fa ?_; refine EL.loadOld rfl rfl rfl rfl rfl hrd rfl ?_; refine .mv ?_; refine .mv ?_; (refine EL.callMw rfl rfl rfl ent43 rfl hrec (by repeat constructor) ?_; intro x); refine .go ?_; repeat constructor
    exact PX.end rfl Tryz.results24 .nil (fun w hs => ⟨(), rfl, hs.ent (.i (by repeat constructor))⟩)
  refine .go ?_; (repeat constructor); refine .ei ?_; refine .as_ ?_; refine .go ?_; repeat constructor
  refine ES.condD rfl (fun h5 => ?_) (fun h5 => ?_)
  · obtain ⟨lo, hi', k, rfl⟩ := kind_5 (show r.kind = 5 by omega)
    rw [walkM] at hz
    have hrec := hC n (by omega) lo hi' k hf g off hn i j _ _ hi hj hz
    refine .go ?_; (repeat constructor); refine .mv ?_; refine .mv ?_; refine .mv ?_; refine .mv ?_; (refine EL.callMw rfl rfl rfl ent44 rfl hrec (by repeat constructor) ?_; intro x); refine .go ?_; repeat constructor
    exact PX.end rfl Tryz.results24 .nil (fun w hs => ⟨(), rfl, hs.ent (.i (by repeat constructor))⟩)
  · have hz2 : z = z' := by
      cases r <;> first | (simp [RE.kind] at h4 h0 h5; done) | (simp only [walkM, Option.some.injEq] at hz; exact hz)
    subst hz2
    refine .go ?_; repeat constructor
    exact PX.end rfl Tryz.results24 .nil (fun w hs => ⟨(), rfl, hs.ent (.i (by repeat constructor))⟩)
structure WSt8 where
  k : Nat
  f : Nat
  i : Nat
  z : SS
theorem setWalk_B {N : Nat} (hs : s.length ≤ 1024) (hA : ∀ f, f < N → WkA w0 B gs s sp cap f) : WkB w0 B gs s sp cap N := by
  intro ks hf hkl ad kcap hkids hkc i j z z' hi hj hz R w h
  replace h : Sat w0 B (WB gs s z.steps [.slice sp z.spans.length cap] 73 :: PRow sp cap z.spans :: R) w := h
  refine calls_of_ES TB Tryz.func43 rfl _ Tryz.ntmps43 rfl h ?_; refine .go ?_; (repeat constructor); refine .mv ?_; refine .lL ?_; refine .mv ?_; refine .go ?_; repeat constructor
  refine ES.loop (σ := WSt8) (fun y => y.k ≤ ks.length ∧ y.f ≤ N ∧ y.i ≤ s.length ∧ ((y.k < ks.length ∧ walkM s y.f (.cat (ks.drop y.k)) y.i j y.z = some z') ∨ (y.k = ks.length ∧ y.z = z')))
    (fun y => [(0, Pv gs 0), (1, .slice ad ks.length kcap), (2, Iv (y.i : Nat)), (3, Iv (j : Nat)), (11, Iv (ks.length : Nat)), (12, Iv (y.k : Nat))])
    (fun y => WB gs s y.z.steps [.slice sp y.z.spans.length cap] 73 :: PRow sp cap y.z.spans :: R) (fun y => ks.length - y.k) ⟨0, N, i, z⟩
    ⟨Nat.zero_le _, Nat.le_refl _, hi, by
      rcases Nat.eq_zero_or_pos ks.length with h0 | h0
      · right
        have hnil := List.eq_nil_of_length_eq_zero h0
        subst hnil
        refine ⟨rfl, ?_⟩
        cases N with
        | zero => rw [walkM] at hz; cases hz
        | succ n => rw [walkM] at hz; exact Option.some.inj hz
      · left; exact ⟨h0, by rw [List.drop_zero]; exact hz⟩⟩ ⟨rfl, rfl, rfl, rfl, rfl, rfl, trivial⟩ (.i (by repeat constructor)) ?_
  rintro ⟨k, f, ic, y⟩ ⟨yk, yf, yi, hy⟩
  dsimp only at yk yf yi hy ⊢
  refine .go ?_; (repeat constructor); refine .ls ?_; refine .go ?_; repeat constructor
  refine ES.condD rfl (fun hlt => ?_) (fun hge => ?_)
  rotate_left
  · rcases hy with ⟨h1, _⟩ | ⟨_, rfl⟩
    · omega
    refine .go ?_; repeat constructor
    exact PX.end rfl Tryz.results43 .nil (fun w hs => ⟨(), rfl, hs.ent (.i (by repeat constructor))⟩)
  have hlt' : k < ks.length := by omega
  obtain ⟨x, hkx⟩ : ∃ x, ks[k]? = some x := ⟨_, List.getElem?_eq_getElem hlt'⟩
  obtain ⟨kg, ko, rfl, hkn⟩ := hkids k x hkx
  have hxf := hf x (List.mem_of_getElem? hkx)
  have hrun : walkM s f (.cat (ks.drop k)) ic j y = some z' := by
    rcases hy with ⟨_, h1⟩ | ⟨h1, _⟩
    · exact h1
    · omega
  rw [List.drop_eq_getElem_cons hlt', show ks[k] = x from (List.getElem?_eq_some_iff.1 hkx).2] at hrun
  obtain ⟨n, rfl⟩ : ∃ n, f = n + 1 := by
    cases f with
    | zero => rw [walkM] at hrun; cases hrun
    | succ n => exact ⟨n, rfl⟩
  refine .go ?_; (repeat constructor); refine .mv ?_; refine .as_ ?_; refine .go ?_; (repeat constructor); refine .mv ?_; refine .as_ ?_; refine .go ?_; (repeat constructor); refine .mv ?_; refine .a1 ?_; refine .mv ?_; refine .lL ?_; refine .ls ?_; refine .go ?_; repeat constructor
  refine ES.condD rfl (fun hmore => ?_) (fun hlast => ?_)
  · have hm : k + 1 < ks.length := by omega
    obtain ⟨x2, hkx2⟩ : ∃ x2, ks[k + 1]? = some x2 := ⟨_, List.getElem?_eq_getElem hm⟩
    obtain ⟨tl, htl⟩ : ∃ tl, tl = ks.drop (k + 1) := ⟨_, rfl⟩
    have htl2 : tl = x2 :: ks.drop (k + 2) := by rw [htl, List.drop_eq_getElem_cons hm, show ks[k + 1] = x2 from (List.getElem?_eq_some_iff.1 hkx2).2]
    rw [← htl, htl2, walkM] at hrun
    cases hc : cutS s [x] (x2 :: ks.drop (k + 2)) ic j y.steps with
    | none => rw [hc] at hrun; cases hrun
    | some es =>
      obtain ⟨e, st⟩ := es
      rw [hc] at hrun
      simp only at hrun
      cases hw : walkM s n (.one x) ic e { y with steps := st } with
      | none => rw [hw] at hrun; cases hrun
      | some y2 =>
        rw [hw] at hrun
        simp only at hrun
        rw [← htl2] at hc hrun
        have hll : ks.length - (k + 1) = tl.length := by rw [htl, List.length_drop]
        have hin : ∀ a, a ∈ tl → a ∈ ks := fun a ha => by rw [htl] at ha; exact List.mem_of_mem_drop ha
        obtain ⟨l, hle, hsp⟩ := splits_c1 gs s hs y.steps [.slice sp y.spans.length cap] 73 [x] tl (fun a ha => by rw [List.mem_singleton] at ha; subst ha; exact hxf) (fun a ha => hf a (hin a ha)) (by simp) (by omega) (k + 1 - k) (ks.length - (k + 1)) (by simp) hll
          (some ⟨kg, ko + k * 9, none⟩) (some ⟨kg, ko + (k + 1) * 9, none⟩) (kcap - k) (kcap - (k + 1)) ic j e st hc w0 B HA.emp
          (kids_drop hkids k [x] (fun a b hab => by
            rcases a with _ | a
            · simp only [List.getElem?_cons_zero, Option.some.injEq] at hab; subst hab; exact hkx
            · simp at hab) HA.emp)
          (kids_drop hkids (k + 1) tl (fun a b hab => by rw [htl, List.getElem?_drop] at hab; exact hab) HA.emp)
        have hsp2 := MutAt.noEmp (HX := fun z : Nat × Nat => [HA.row (.slice (some ⟨z.1, 0, none⟩) (l + 1) z.2) 3 1 (l + 1) (Iv (e : Nat) :: (splL s [x] tl ic j y.steps).tail.map fun z : Nat => Iv (z : Nat)), WB gs s st [.slice sp y.spans.length cap] 73]) hsp
        refine .g0 ?_; repeat constructor
        refine ES.draw (X := Unit) (fun _ => [(0, Pv gs 0), (1, .slice (some ⟨kg, ko, none⟩) ks.length kcap), (2, Iv (ic : Nat)), (3, Iv (j : Nat)), (8, Iv (k : Nat)), (9, Iv (e : Nat)), (11, Iv (ks.length : Nat)), (12, Iv (k : Nat))])
          (fun _ => WB gs s st [.slice sp y.spans.length cap] 73 :: PRow sp cap y.spans :: R) [] mixed (.i (by repeat constructor)) ?_ (fun _ => ?_)
        · refine .tk 0 rfl (RV.move rfl) ?_; refine .tk 1 rfl (RV.nilCheck rfl) ?_; refine .tk 2 rfl (RV.fieldAddr rfl rfl rfl rfl rfl rfl) ?_; refine .tk 3 rfl (RV.move rfl) ?_; refine .tk 4 rfl (RV.move rfl) ?_; refine .tk 5 rfl (RV.move rfl) ?_; refine .tk 6 rfl (RV.add1 rfl rfl (by omega)) ?_; refine .tk 7 rfl (RV.sliceLHk (lo := k) (hi := k + 1) rfl rfl rfl rfl rfl rfl (by omega) (by omega) (by omega)) ?_; refine .tk 8 rfl (RV.move rfl) ?_; refine .tk 9 rfl (RV.move rfl) ?_; refine .tk 10 rfl (RV.add1 rfl rfl (by omega)) ?_; refine .tk 11 rfl (RV.sliceLk (lo := k + 1) rfl rfl rfl rfl rfl (by omega) (by omega) (by omega)) ?_; refine .tk 12 rfl (RV.move rfl) ?_; refine .tk 13 rfl (RV.move rfl) ?_; refine .ld 14 ?_; (refine EL.callMw rfl rfl rfl ent67 rfl hsp2 (by repeat constructor) ?_; intro x); refine .nx ?_; refine .tk 15 rfl (RV.indexAddrL1 (i := 0) rfl rfl rfl rfl rfl rfl (by omega)) ?_; refine .ld 16 ?_
          (refine EL.loadR rfl rfl rfl rfl rfl (by repeat constructor) rfl ?_)
          refine .nx ?_; refine .tk 17 rfl (RV.assign rfl) ?_; refine .dn ?_
          exact .cy ()
        have hrec := hA n (by omega) x hxf kg (ko + k * 9) hkn ic e _ _ yi hle hw
        refine .go ?_; (repeat constructor); refine .mv ?_; refine .mv ?_; refine .mv ?_; refine EL.indexAddrL (i := k) rfl rfl rfl rfl rfl rfl rfl hlt' ?_; refine .mv ?_; refine .mv ?_; (refine EL.callMw rfl rfl rfl ent24 rfl hrec (by repeat constructor) ?_; intro x); refine .go ?_; (repeat constructor); refine .go ?_; (repeat constructor); refine .mv ?_; refine .as_ ?_; refine .go ?_; (repeat constructor); refine .a1 ?_; refine .mv ?_; refine .go ?_; repeat constructor
        exact .ly ⟨k + 1, n, e, y2⟩ ⟨hlt', by dsimp only; omega, hle, .inl ⟨hm, by dsimp only; rw [← htl]; exact hrun⟩⟩ (by simp only; omega)
  · have hl : k + 1 = ks.length := by omega
    have hnil : ks.drop (k + 1) = [] := List.drop_of_length_le (by omega)
    rw [hnil, walkM] at hrun
    have hrec := hA n (by omega) x hxf kg (ko + k * 9) hkn ic j _ _ yi hj hrun
    refine .go ?_; (repeat constructor); refine .go ?_; (repeat constructor); refine .mv ?_; refine .mv ?_; refine .mv ?_; refine EL.indexAddrL (i := k) rfl rfl rfl rfl rfl rfl rfl hlt' ?_; refine .mv ?_; refine .mv ?_; (refine EL.callMw rfl rfl rfl ent24 rfl hrec (by repeat constructor) ?_; intro x); refine .go ?_; (repeat constructor); refine .go ?_; (repeat constructor); refine .mv ?_; refine .as_ ?_; refine .go ?_; (repeat constructor); refine .a1 ?_; refine .mv ?_; refine .go ?_; repeat constructor
    exact .ly ⟨k + 1, n, j, z'⟩ ⟨hlt', by dsimp only; omega, hj, .inr ⟨hl, rfl⟩⟩ (by simp only; omega)
theorem setWalk_C {N : Nat} (hs : s.length ≤ 1024) (hA : ∀ f, f < N → WkA w0 B gs s sp cap f) : WkC w0 B gs s sp cap N := by
  intro lo hi k hf g off hn i j z z' hi' hj hz R w h
  replace h : Sat w0 B (WB gs s z.steps [.slice sp z.spans.length cap] 73 :: PRow sp cap z.spans :: R) w := h
  have hkf := hf.2.2.2.2
  have hn' := hn
  obtain ⟨ad, kcap, cs0, q1, q2, q3, q4⟩ := hn'
  have hrd := q1.rd
  obtain ⟨g', o', rfl, _⟩ := q3 (fun e => by have := q2.len; rw [e] at this; simp [RE.kids] at this)
  have hkn : NodeRd w0 B g' (o' + 0 * 9) k := Node.of_row q2 q3 (i := 0) rfl
  have hkids : KidsRd w0 B [k] (some ⟨g', o', none⟩) := fun a b hab => by
    rcases a with _ | a
    · simp only [List.getElem?_cons_zero, Option.some.injEq] at hab; subst hab; exact ⟨g', o', rfl, hkn⟩
    · simp at hab
  have hle := least_le lo k
  have hlo := hf.1
  refine calls_of_ES TB Tryz.func44 rfl _ Tryz.ntmps44 rfl h ?_; refine .go ?_; (repeat constructor); refine .as_ ?_; refine .go ?_; repeat constructor
  refine ES.loop (σ := WSt8) (fun y => y.f ≤ N ∧ y.i ≤ s.length ∧ walkM s y.f (.rep lo hi k y.k) y.i j y.z = some z')
    (fun y => [(0, Pv gs 0), (1, Pv g off), (2, Iv (y.i : Nat)), (3, Iv (j : Nat)), (8, Iv (y.k : Nat))])
    (fun y => WB gs s y.z.steps [.slice sp y.z.spans.length cap] 73 :: PRow sp cap y.z.spans :: R) (fun y => y.f) ⟨0, N, i, z⟩
    ⟨Nat.le_refl _, hi', hz⟩ ⟨rfl, rfl, rfl, rfl, rfl, trivial⟩ (.i (by repeat constructor)) ?_
  rintro ⟨t, f, ic, y⟩ ⟨yf, yi, hrun⟩
  dsimp only at yf yi hrun ⊢
  obtain ⟨n, rfl⟩ : ∃ n, f = n + 1 := by
    cases f with
    | zero => rw [walkM] at hrun; cases hrun
    | succ n => exact ⟨n, rfl⟩
  rw [walkM] at hrun
  refine .go ?_; (repeat constructor); refine .mv ?_; refine .mv ?_; refine .ei ?_; refine .go ?_; repeat constructor
  refine ES.condD rfl (fun heq => ?_) (fun hne => ?_)
  · have heq' : ic = j := by omega
    rw [if_pos heq'] at hrun
    refine .go ?_; (repeat constructor); refine .mv ?_; refine .mv ?_; refine EL.callPw rfl rfl rfl ent68 rfl (fun w hs => least_c lo hi k hf g off w (NodeRd.sat hn hs)) ?_; refine .ls ?_; refine .go ?_; repeat constructor
    refine ES.condD rfl (fun hless => ?_) (fun hmore => ?_)
    · rw [if_pos (by omega)] at hrun
      have hrec := hA n (by omega) k hkf g' (o' + 0 * 9) hkn j j _ _ hj hj hrun
      refine .go ?_; (repeat constructor); refine .mv ?_; refine .mv ?_; refine .nc ?_; refine .fa ?_; refine EL.loadOld rfl rfl rfl rfl rfl hrd rfl ?_; refine EL.indexAddrL (i := 0) rfl rfl rfl rfl rfl rfl rfl (by simp [RE.kids]) ?_; refine .mv ?_; refine .mv ?_; (refine EL.callMw rfl rfl rfl ent24 rfl hrec (by repeat constructor) ?_; intro x); refine .go ?_; repeat constructor
      exact PX.ret rfl Tryz.results44 .nil (fun w hs => ⟨(), rfl, hs.ent (.i (by repeat constructor))⟩)
    · rw [if_neg (by omega)] at hrun
      cases hrun
      refine .go ?_; repeat constructor
      exact PX.ret rfl Tryz.results44 .nil (fun w hs => ⟨(), rfl, hs.ent (.i (by repeat constructor))⟩)
  have hne' : ¬ ic = j := by omega
  rw [if_neg hne'] at hrun
  split at hrun
  · cases hrun
  rename_i hbig
  cases hc : cutS s [k] [leftM lo hi k (t + 1)] ic j y.steps with
  | none => rw [hc] at hrun; cases hrun
  | some es =>
    obtain ⟨e, st⟩ := es
    rw [hc] at hrun
    simp only at hrun
    cases hw : walkM s n (.one k) ic e { y with steps := st } with
    | none => rw [hw] at hrun; cases hrun
    | some y2 =>
      rw [hw] at hrun
      simp only at hrun
      have hsp := fun b => splits_c1 gs s hs y.steps [.slice sp y.spans.length cap] 73 [k] [leftM lo hi k (t + 1)] (fun a ha => by rw [List.mem_singleton] at ha; subst ha; exact hkf) (fun a ha => by rw [List.mem_singleton] at ha; subst ha; exact left_fine hf _) (by simp) (by simp) 1 1 rfl rfl
        (some ⟨g', o', none⟩) (some ⟨b, 0, none⟩) kcap 1 ic j e st hc w0 B (HA.row (.slice (some ⟨b, 0, none⟩) 1 1) 46 9 1 (reCells (leftM lo hi k (t + 1)) (.slice (some ⟨g', o', none⟩) 1 kcap)))
        (fun w' H' hs' a b hab => by
          obtain ⟨q, o, e1, e2⟩ := hkids a b hab
          exact ⟨q, o, e1, NodeRd.sat e2 hs'⟩)
        (rowRd_left q2 q3 q4)
      obtain ⟨l0, hle0, hsp0⟩ := hsp 0
      have hsp1 : ∃ l : Nat → Nat, ∀ b, MutAt Tryz.prog 67 #[Pv gs 0, .slice (some ⟨g', o', none⟩) 1 kcap, .slice (some ⟨b, 0, none⟩) 1 1, Iv (ic : Nat), Iv (j : Nat)] [WB gs s y.steps [.slice sp y.spans.length cap] 73, HA.row (.slice (some ⟨b, 0, none⟩) 1 1) 46 9 1 (reCells (leftM lo hi k (t + 1)) (.slice (some ⟨g', o', none⟩) 1 kcap))] (fun z : Nat × Nat => .slice (some ⟨z.1, 0, none⟩) (l b + 1) z.2)
          (fun z => [HA.row (.slice (some ⟨z.1, 0, none⟩) (l b + 1) z.2) 3 1 (l b + 1) (Iv (e : Nat) :: (splL s [k] [leftM lo hi k (t + 1)] ic j y.steps).tail.map fun z : Nat => Iv (z : Nat)), WB gs s st [.slice sp y.spans.length cap] 73, HA.row (.slice (some ⟨b, 0, none⟩) 1 1) 46 9 1 (reCells (leftM lo hi k (t + 1)) (.slice (some ⟨g', o', none⟩) 1 kcap))]) w0 B :=
        ⟨fun b => (hsp b).choose, fun b => (hsp b).choose_spec.2⟩
      obtain ⟨l, hsp1⟩ := hsp1
      refine .g0 ?_; repeat constructor
      refine ES.draw (X := Unit) (fun _ => [(0, Pv gs 0), (1, Pv g off), (2, Iv (ic : Nat)), (3, Iv (j : Nat)), (8, Iv (t : Nat)), (9, Iv (e : Nat))])
        (fun _ => WB gs s st [.slice sp y.spans.length cap] 73 :: PRow sp cap y.spans :: R) [] mixed (.i (by repeat constructor)) ?_ (fun _ => ?_)
      · refine .tk 0 rfl (RV.move rfl) ?_; refine .tk 1 rfl (RV.nilCheck rfl) ?_; refine .tk 2 rfl (RV.fieldAddr rfl rfl rfl rfl rfl rfl) ?_; refine .tk 3 rfl (RV.move rfl) ?_; refine .tk 4 rfl (RV.nilCheck rfl) ?_; refine .tk 5 rfl (RV.fieldAddr rfl rfl rfl rfl rfl rfl) ?_; refine .tk 6 rfl (RV.loadOld rfl rfl rfl hrd rfl) ?_; refine .tk 7 rfl (RV.move rfl) ?_; refine .tk 8 rfl (RV.move rfl) ?_; refine .tk 9 rfl (RV.add1 rfl rfl (by omega)) ?_; refine .tk 12 rfl (RV.move rfl) ?_; refine .tk 13 rfl (RV.move rfl) ?_; refine .ld 10 ?_
        (refine EL.callPw rfl rfl rfl ent69 rfl (fun w hs => left_c lo hi k hf (t + 1) (by omega) g off (some ⟨g', o', none⟩) kcap w (NodeRd.sat hn hs) (Rd.sat hrd hs)) ?_)
        refine .nx ?_; refine .ld 11 ?_; (refine .b1 ?_; intro b39); refine .nx ?_; refine .ld 14 ?_; (refine EL.callMw rfl rfl rfl ent67 rfl (hsp1 b39) (by repeat constructor) ?_; intro x); refine .nx ?_; refine .tk 15 rfl (RV.indexAddrL1 (i := 0) rfl rfl rfl rfl rfl rfl (by omega)) ?_; refine .ld 16 ?_
        (refine EL.loadR rfl rfl rfl rfl rfl (by repeat constructor) rfl ?_)
        refine .nx ?_; refine .tk 17 rfl (RV.assign rfl) ?_; refine .dn ?_
        exact .cy ()
      have hrec := hA n (by omega) k hkf g' (o' + 0 * 9) hkn ic e _ _ yi hle0 hw
      refine .go ?_; (repeat constructor); refine .mv ?_; refine .mv ?_; refine .nc ?_; refine .fa ?_; refine EL.loadOld rfl rfl rfl rfl rfl hrd rfl ?_; refine EL.indexAddrL (i := 0) rfl rfl rfl rfl rfl rfl rfl (by simp [RE.kids]) ?_; refine .mv ?_; refine .mv ?_; (refine EL.callMw rfl rfl rfl ent24 rfl hrec (by repeat constructor) ?_; intro x); refine .go ?_; (repeat constructor); refine .go ?_; (repeat constructor); refine .mv ?_; refine .as_ ?_; refine .go ?_; (repeat constructor); refine .mv ?_; refine .a1 ?_; refine .as_ ?_; refine .go ?_; repeat constructor
      exact .ly ⟨t + 1, n, e, y2⟩ ⟨by dsimp only; omega, hle0, hrun⟩ (by simp only; omega)
theorem setWalk_all (hs : s.length ≤ 1024) : ∀ N : Nat, ∀ f, f < N → WkA w0 B gs s sp cap f ∧ WkB w0 B gs s sp cap f ∧ WkC w0 B gs s sp cap f
  | 0, f, h => absurd h (by omega)
  | N + 1, f, h => by
    have ih := setWalk_all hs N
    have hA : ∀ f', f' < f → WkA w0 B gs s sp cap f' := fun f' hf' => (ih f' (by omega)).1
    exact ⟨setWalk_A hA (fun f' hf' => (ih f' (by omega)).2.1) (fun f' hf' => (ih f' (by omega)).2.2), setWalk_B hs hA, setWalk_C hs hA⟩
theorem setWalk_c (hs : s.length ≤ 1024) (f : Nat) : WkA w0 B gs s sp cap f := (setWalk_all hs (f + 1) f (by omega)).1
end walks
end Go.Proofs.YthcbjbkheodejaaGreat
namespace Go.Proofs.YthcbjbkheodejaaGreat
open Go Go.RowKit Sl
set_option maxRecDepth 100000
set_option maxHeartbeats 8000000
attribute [local irreducible] ES EL PX wps
def spanO (o : Option (Nat × Nat)) : Spn := match o with
  | some (a, b) => ((a : Int), (b : Int))
  | none => (0, 0)
structure FSt where
  n : Nat
  i : Nat
  st : Nat
theorem setFind_c (gs : Nat) (s : List UInt8) (hs : s.length ≤ 1024) (ga : Nat) (A : AM × Nat) (x : AX A.1) (hr : A.1.Room 0) (he : A.2 < A.1.out.length) (i0 : Nat) (hi0 : i0 ≤ s.length) (st0 : Nat) (rest : List Value) (o : Option (Nat × Nat)) (st : Nat) (hfm : findM s A (s.length + 1 - i0) i0 st0 = some (o, st)) :
    Mut Tryz.prog 22 #[Pv gs 0, Pv ga 0, Iv (i0 : Nat)] [WB gs s st0 rest 73, AP ga x.1 A.2] (fun _ : Unit => .tuple #[.agg (spC (spanO o)).toArray, .bool o.isSome]) (fun _ => [WB gs s st rest 73]) := by
  intro w0 B R w h
  replace h : Sat w0 B (WB gs s st0 rest 73 :: AP ga x.1 A.2 :: R) w := h
  refine calls_of_ES TB Tryz.func22 rfl _ Tryz.ntmps22 rfl h ?_; refine .gr ?_; (repeat constructor); (refine .al ?_; intro g6); refine .as_ ?_; refine .gr ?_; (repeat constructor); refine .gr ?_; (repeat constructor); refine .mv ?_; refine .as_ ?_; refine .gr ?_; repeat constructor
  refine ES.loop (σ := FSt) (fun y => y.n + y.i = s.length + 1 ∧ findM s A y.n y.i y.st = some (o, st)) (fun y => [(0, Pv gs 0), (1, Pv ga 0), (6, Pv g6 0), (8, Iv (y.i : Nat))])
    (fun y => WB gs s y.st rest 73 :: AP ga x.1 A.2 :: HA.blk g6 (.cells #[Iv 0, Iv 0] 29) :: R) (fun y => y.n) ⟨s.length + 1 - i0, i0, st0⟩ ⟨by dsimp only; omega, hfm⟩ ⟨rfl, rfl, rfl, rfl, trivial⟩ (.i (by repeat constructor)) ?_
  rintro ⟨n, i, sc⟩ ⟨hn, hgo⟩
  dsimp only at hn hgo ⊢
  refine .gr ?_; (repeat constructor); refine .mv ?_; refine .mv ?_; refine .nc ?_; refine .fa ?_; refine .fa ?_; refine .lb ?_; refine .lS ?_; refine .lq ?_; refine .gr ?_; repeat constructor
  refine ES.condD rfl (fun hle => ?_) (fun hgt => ?_)
  rotate_left
  · obtain rfl : n = 0 := by omega
    rw [findM] at hgo
    simp only [Option.some.injEq, Prod.mk.injEq] at hgo
    obtain ⟨rfl, rfl⟩ := hgo
    refine .gr ?_; (repeat constructor); refine EL.buildZ rfl rfl rfl rfl rfl ?_; refine .sa ?_; refine .as_ ?_; refine .gr ?_; repeat constructor
    exact PX.ret rfl Tryz.results22 (.cons (.blkA rfl rfl rfl (by repeat constructor) rfl) (.cons (.tmp rfl) .nil)) (fun w hs => ⟨(), rfl, hs.ent (.i (by repeat constructor))⟩)
  obtain ⟨n, rfl⟩ : ∃ n', n = n' + 1 := ⟨n - 1, by omega⟩
  rw [findM] at hgo
  split at hgo
  rotate_left
  · cases hgo
  rename_i hsb
  have hi : i ≤ s.length := by omega
  have hec := ends_c gs s hs sc (by omega) rest 73 ga A x hr he i hi
  have hml : (endsM A s i sc).marks.length = s.length + 1 := flood_len hr.eo s (by show 0 < _; omega) hi _ _ _
  generalize endsM A s i sc = FE at hgo hec hml
  refine .gr ?_; (repeat constructor); refine .mv ?_; refine .nc ?_; refine .fa ?_; refine .mv ?_; refine .mv ?_; (refine EL.callM rfl rfl rfl ent40 rfl hec (by repeat constructor) ?_; intro ge); refine .as_ ?_; refine .gr ?_; (repeat constructor); refine .mv ?_; refine .nc ?_; refine .fa ?_; refine .fa ?_; refine .lb ?_; refine .lS ?_; refine .as_ ?_; refine .gr ?_; repeat constructor
  refine ES.loop (σ := Nat) (fun m => m ≤ s.length + 1 - i ∧ lastT FE.marks i m = lastT FE.marks i (s.length + 1 - i)) (fun m => [(0, Pv gs 0), (1, Pv ga 0), (6, Pv g6 0), (8, Iv (i : Nat)), (9, .slice (some ⟨ge, 0, none⟩) (s.length + 1) (s.length + 1)), (10, Iv ((i : Int) + (m : Int) - 1))])
    (fun m => WB gs s FE.steps rest 73 :: BR ge (s.length + 1) FE.marks :: AP ga x.1 A.2 :: HA.blk g6 (.cells #[Iv 0, Iv 0] 29) :: R) (fun m => m) (s.length + 1 - i) ⟨Nat.le_refl _, rfl⟩ ⟨rfl, rfl, rfl, rfl, rfl, getA rfl (congrArg Iv (by omega)), trivial⟩ (.i (by repeat constructor)) ?_
  rintro m ⟨hm, hlt⟩
  refine .gr ?_; (repeat constructor); refine .mv ?_; refine .mv ?_; refine .ls ?_; refine .gr ?_; repeat constructor
  refine ES.condD rfl (fun hz => ?_) (fun hnz => ?_)
  · obtain rfl : m = 0 := by omega
    have hnone : lastT FE.marks i (s.length + 1 - i) = none := by rw [← hlt]; rfl
    rw [hnone] at hgo
    refine .gr ?_; (repeat constructor); refine .gr ?_; (repeat constructor); refine .mv ?_; refine .a1 ?_; refine .as_ ?_; refine .gr ?_; repeat constructor
    exact .ly ⟨n, i + 1, FE.steps⟩ ⟨by dsimp only; omega, hgo⟩ (by simp only; omega)
  obtain ⟨m, rfl⟩ : ∃ m', m = m' + 1 := ⟨m - 1, by omega⟩
  have e : (i : Int) + ((m + 1 : Nat) : Int) - 1 = ((i + m : Nat) : Int) := by omega
  rw [e]
  have hl1 : lastT FE.marks i (m + 1) = if FE.marks.getD (i + m) false = true then some (i + m) else lastT FE.marks i m := by
    unfold lastT
    rw [dnL, List.find?_cons]
    cases FE.marks.getD (i + m) false <;> rfl
  refine .gr ?_; (repeat constructor); refine .mv ?_; refine .mv ?_; refine .i1 ?_
  refine EL.ofRV (RV.loadRm (l := FE.marks) Value.bool false rfl rfl rfl (by repeat constructor) (by rw [hml]; omega)) rfl rfl rfl (by intro c h; cases h) ?_
  refine .gr ?_; repeat constructor
  refine ES.cond rfl (fun hf => ?_) (fun hf => ?_)
  · rw [← hlt, hl1, if_pos hf] at hgo
    simp only [Option.some.injEq, Prod.mk.injEq] at hgo
    obtain ⟨rfl, rfl⟩ := hgo
    refine .gr ?_; (repeat constructor); refine .mv ?_; refine .mv ?_
    (apply EL.build2; exact rfl; exact rfl; exact rfl; exact rfl; exact rfl; exact rfl; exact rfl; exact rfl; exact rfl; exact rfl)
    refine .sa ?_; refine .as_ ?_; refine .gr ?_; repeat constructor
    exact PX.ret rfl Tryz.results22 (.cons (.blkA rfl rfl rfl (by repeat constructor) rfl) (.cons (.tmp rfl) .nil)) (fun w hs => ⟨(), rfl, hs.ent (.i (by repeat constructor))⟩)
  · rw [if_neg (by rw [hf]; simp)] at hl1
    refine .gr ?_; (repeat constructor); refine .gr ?_; (repeat constructor); refine .mv ?_; refine EL.sub_ ((i : Int) + (m : Int) - 1) rfl rfl rfl rfl ((wrap_i64 _ (by omega) (by omega)).trans (by omega)) ?_; refine .as_ ?_; refine .gr ?_; repeat constructor
    exact .ly m ⟨by omega, by rw [← hl1]; exact hlt⟩ (by omega)
theorem rd_blk {w0 w : World} {B g e : Nat} {H : List HA} {cs : List Value} (hs : Sat w0 B H w) (hm : Mem H (HA.blk g (.cells cs.toArray e))) : Rd w w.heap.size (some ⟨g, 0, none⟩) cs := fun _ => by
  have hb : w.heap[g]? = some (.cells cs.toArray e (0, 0)) := hs.all _ hm.mem
  exact ⟨g, 0, rfl, (Array.getElem?_eq_some_iff.1 hb).1, fun j v hj => by rw [blk_cell hb, Nat.zero_add]; simpa using hj⟩
theorem mem_dnL {p i : Nat} : ∀ n, p ∈ dnL i n ↔ i ≤ p ∧ p < i + n
  | 0 => by simp only [dnL, List.not_mem_nil, false_iff]; omega
  | n + 1 => by
    rw [dnL, List.mem_cons, mem_dnL n]
    omega
theorem lastT_bounds {m : List Bool} {i n p : Nat} (h : lastT m i n = some p) : i ≤ p ∧ p < i + n := (mem_dnL n).1 (List.mem_of_find?_eq_some h)
theorem find_bounds {s : List UInt8} {A : AM × Nat} : ∀ (n i st : Nat) {a b st' : Nat}, findM s A n i st = some (some (a, b), st') → n + i = s.length + 1 → i ≤ a ∧ a ≤ b ∧ b ≤ s.length
  | 0, i, st, a, b, st', h, hn => by rw [findM] at h; simp at h
  | n + 1, i, st, a, b, st', h, hn => by
    rw [findM] at h
    split at h
    · split at h
      · rename_i j hj
        simp only [Option.some.injEq, Prod.mk.injEq] at h
        obtain ⟨⟨rfl, rfl⟩, _⟩ := h
        have := lastT_bounds hj
        omega
      · have := find_bounds n (i + 1) _ h (by omega)
        omega
    · cases h
structure SpSt where
  i : Nat
  ad : Option Addr
  cap : Nat
theorem setMatch_c (F : Nat) (t s : List UInt8) (a : Int) (m : MR) (hm : setM F t s a = some m) (ht : t.length ≤ 4611686018427387904) (w : World) (hG : GR w w.heap.size) :
    Pure Tryz.prog 7 #[Sv t, Sv s, Iv a] (fun x : Option Addr × Nat => .tuple #[.slice x.1 m.spans.length x.2, .bool m.ok, Iv (m.steps : Nat), Iv m.e]) (fun x => [PRow x.1 x.2 m.spans]) w := by
  have hpf := parse_fine t
  have hpc := fun w hG => parse_c t ht w hG
  have hof : ofM t = if (parseM t).e ≠ 0 then (Me.zero, (parseM t).e, (parseM t).at_) else (measM (parseM t).tree, 0, 0) := rfl
  have hmc := fun w hG => measOf_c t ht w hG
  unfold setM at hm
  generalize ofM t = om at hof hmc
  generalize parseM t = p at hm hpf hpc hof
  obtain ⟨tree, pe, pat⟩ := p
  dsimp only at hm hpf hpc hof
  have hnil : ∀ {w0 w' : World} {B : Nat} {R : List HA}, Sat w0 B R w' → Sat w0 B [PRow none 0 []] w' := fun {w0 w' B R} h => (h.nilRow 29 2).ent (.i (by repeat constructor))
  refine calls_of_ES TB Tryz.func7 rfl _ Tryz.ntmps7 rfl (Sat.start w) ?_; refine .go ?_; (repeat constructor); refine .as_ ?_; refine .as_ ?_; refine .as_ ?_; refine .as_ ?_; refine .go ?_; (repeat constructor); refine .mv ?_; (refine EL.callXw rfl rfl rfl ent20 rfl (fun w hs => hpc w (GR.sat hG hs)) ?_; intro px); refine .mv ?_; refine .ex ?_; refine .ex ?_; (refine .al ?_; intro g10); (refine .al ?_; intro g11); refine .sa ?_; refine .sa ?_; refine .go ?_; (repeat constructor); refine .go ?_; (repeat constructor); refine .fa ?_; refine .lb ?_; refine .ni ?_; refine .go ?_; repeat constructor
  refine ES.condN rfl (fun hne => ?_) (fun he => ?_)
  · rw [if_pos hne] at hm
    cases hm
    refine .g0 ?_; repeat constructor
    refine ES.draw (X := Unit) (fun _ => [(6, .slice none 0 0), (7, .bool false), (8, Iv 0), (9, Iv pe)]) (fun _ => []) (HA.blk g11 (.cells #[Iv pe, Iv (pat : Nat)] 33) :: []) mixed (.i (by repeat constructor)) ?_ (fun _ => ?_)
    · refine .tk 0 rfl (RV.fieldAddr rfl rfl rfl rfl rfl rfl) ?_; refine .tk 1 rfl (RV.loadB rfl rfl rfl (by repeat constructor) rfl) ?_; refine .tk 2 rfl (RV.assign rfl) ?_; refine .tk 3 rfl (RV.assign rfl) ?_; refine .tk 4 rfl (RV.assign rfl) ?_; refine .tk 5 rfl (RV.assign rfl) ?_; refine .dn ?_
      exact .cy ()
    refine .go ?_; repeat constructor
    exact PX.ret rfl Tryz.results7 (.cons (.tmp rfl) (.cons (.tmp rfl) (.cons (.tmp rfl) (.cons (.tmp rfl) .nil)))) (fun w hs => ⟨(none, 0), rfl, hnil hs⟩)
  have he' : pe = 0 := he
  rw [if_neg (fun h => h he')] at hm hof
  subst hof
  refine .go ?_; (repeat constructor); refine .mv ?_; refine EL.callPw rfl rfl rfl ent21 rfl (fun w hs => hmc w (GR.sat hG hs)) ?_; refine .mv ?_; refine .ex ?_; refine .ex ?_; (refine .al ?_; intro g12); (refine .al ?_; intro g13); refine .sa ?_; refine .sa ?_; refine .go ?_; (repeat constructor); refine .go ?_; (repeat constructor); refine .fa ?_; refine .lb ?_; refine .as_ ?_; refine .go ?_; repeat constructor
  refine ES.cond rfl (fun hb => ?_) (fun hb => ?_)
  · rw [if_pos hb] at hm
    cases hm
    refine .go ?_; (repeat constructor); refine .as_ ?_; refine .as_ ?_; refine .as_ ?_; refine .as_ ?_; refine .go ?_; repeat constructor
    exact PX.ret rfl Tryz.results7 (.cons (.tmp rfl) (.cons (.tmp rfl) (.cons (.tmp rfl) (.cons (.tmp rfl) .nil)))) (fun w hs => ⟨(none, 0), rfl, hnil hs⟩)
  have hb' : (measM tree).back = false := hb
  rw [if_neg (by rw [hb']; simp)] at hm
  refine .go ?_; (repeat constructor); refine .mv ?_; refine .lS ?_; refine .gt_ ?_; refine .as_ ?_; refine .go ?_; repeat constructor
  refine ES.condD rfl (fun hl => ?_) (fun hl => ?_)
  · rw [if_pos (by omega)] at hm
    cases hm
    refine .go ?_; (repeat constructor); refine .as_ ?_; refine .as_ ?_; refine .as_ ?_; refine .as_ ?_; refine .go ?_; repeat constructor
    exact PX.ret rfl Tryz.results7 (.cons (.tmp rfl) (.cons (.tmp rfl) (.cons (.tmp rfl) (.cons (.tmp rfl) .nil)))) (fun w hs => ⟨(none, 0), rfl, hnil hs⟩)
  rw [if_neg (by omega)] at hm
  have hs2 : s.length ≤ 1024 := by omega
  refine .go ?_; repeat constructor
  refine EL.cutX (X := Unit) (fun _ => [(0, Sv t), (1, Sv s), (2, Iv a), (10, Pv g10 0), (12, Pv g12 0), (39, .bool (decide (a < 0 ∨ (s.length : Int) < a)))])
    (fun _ => HA.blk g10 (.cells (reCells tree (.slice px.ad tree.kids.length px.cap)).toArray 46) :: HA.forest px.fp [tree] (reCells tree (.slice px.ad tree.kids.length px.cap)) :: HA.blk g12 (.cells (measM tree).cells.toArray 66) :: []) ?_ (fun _ => ?_)
  · refine .go ?_; (repeat constructor); refine .mv ?_; refine .ls ?_; refine .mv ?_
    first | refine EL.splitD (d := 42) rfl (fun hp42 => ?_) (fun hp42 => ?_) | refine EL.splitN (d := 42) rfl (fun hp42 => ?_) (fun hp42 => ?_) | refine EL.splitB (d := 42) rfl (fun hp42 => ?_) (fun hp42 => ?_)
    · refine .ps ?_; refine .ps ?_; refine .ps ?_; refine .ps ?_; refine .pt ?_; refine .as_ ?_
      exact .dx () ⟨rfl, rfl, rfl, rfl, rfl, getA rfl (congrArg Value.bool (by rw [Bool.eq_iff_iff]; simp only [decide_eq_true_eq, true_iff]; omega)), trivial⟩
    · refine .mv ?_; refine .mv ?_; refine .lS ?_; refine .gt_ ?_; refine .pf ?_; refine .as_ ?_
      exact .dx () ⟨rfl, rfl, rfl, rfl, rfl, getA rfl (congrArg Value.bool (by rw [Bool.eq_iff_iff]; simp only [decide_eq_true_eq, true_iff]; omega)), trivial⟩
  refine ES.condD rfl (fun hr => ?_) (fun hr => ?_)
  · rw [if_pos hr] at hm
    cases hm
    refine .go ?_; (repeat constructor); refine .as_ ?_; refine .as_ ?_; refine .as_ ?_; refine .as_ ?_; refine .go ?_; repeat constructor
    exact PX.ret rfl Tryz.results7 (.cons (.tmp rfl) (.cons (.tmp rfl) (.cons (.tmp rfl) (.cons (.tmp rfl) .nil)))) (fun w hs => ⟨(none, 0), rfl, hnil hs⟩)
  rw [if_neg hr] at hm
  split at hm
  · cases hm
  rename_i hgr
  obtain ⟨G, hGr⟩ : ∃ G : Nat, (measM tree).grp = (G : Int) := ⟨(measM tree).grp.toNat, by omega⟩
  have hG9 : G ≤ 9 := by omega
  rw [hGr, Int.toNat_natCast] at hm
  obtain ⟨i, rfl⟩ : ∃ i : Nat, a = (i : Int) := ⟨a.toNat, by omega⟩
  have hi : i ≤ s.length := by omega
  rw [Int.toNat_natCast] at hm
  unfold setGo at hm
  split at hm
  rotate_left
  · cases hm
  rename_i hcost
  refine .g0 ?_; repeat constructor
  refine ES.rebase (fun w1 hw1 => ?_)
  have hn := node_of hw1 (by repeat constructor) (by repeat constructor)
  have hrd12 := rd_blk hw1 (g := g12) (cs := (measM tree).cells) (e := 66) (by repeat constructor)
  have hn' := hn
  obtain ⟨ad, kcap, cs0, q1, q2, q3, q4⟩ := hn'
  have hrd10 := q1.rd
  obtain ⟨hr1, he1⟩ := make_room [tree] hcost
  refine .go ?_; (repeat constructor); refine .mv ?_; refine EL.buildS #[Sv s, Iv 0] rfl rfl rfl rfl rfl (by kernel_rfl) rfl ?_; refine EL.buildS #[Sv s, Iv 0, .slice none 0 0] rfl rfl rfl rfl rfl (by kernel_rfl) rfl ?_; (refine .bx ?_; intro g51); refine .as_ ?_; refine .go ?_; repeat constructor
  cases hfm : findM s (makeM [tree]) (s.length + 1 - i) i 0 with
  | none => rw [hfm] at hm; cases hm
  | some os =>
  obtain ⟨o, st⟩ := os
  rw [hfm] at hm
  have hfc := fun ga x => setFind_c g51 s hs2 ga (makeM [tree]) x hr1 he1 i hi 0 [.slice none 0 0] o st hfm
  refine .go ?_; (repeat constructor); refine .mv ?_
  refine EL.loadOldA (j := 0) (vs := reCells tree (.slice ad tree.kids.length kcap)) rfl rfl rfl rfl rfl (by simp [reCells]) rfl hrd10 (fun i u hi => by rw [Nat.zero_add]; exact hi) ?_
  (refine .b1 ?_; intro b55)
  (refine EL.callXw rfl rfl rfl ent23 rfl (fun w hs => make_c [tree] (fun k hk => by rw [List.mem_singleton] at hk; subst hk; exact hpf) (by simp) hcost (some ⟨b55, 0, none⟩) 1 w (rowRd_one q2 q3 q4 w _ (hs.ent (H' := HA.row (.slice (some ⟨b55, 0, none⟩) 1 1) 46 9 1 (reCells tree (.slice ad tree.kids.length kcap)) :: []) (.i (by repeat constructor))))) ?_; intro mk)
  refine .mv ?_; (refine EL.callM rfl rfl rfl ent22 rfl (hfc mk.1 mk.2) (by repeat constructor) ?_; intro u); refine .mv ?_; refine .ex ?_; refine .ex ?_; (refine .al ?_; intro g15); refine .sa ?_; refine .as_ ?_; refine .go ?_; (repeat constructor); refine .go ?_; (repeat constructor); refine .mv ?_; refine .nt ?_; refine .go ?_; repeat constructor
  cases o with
  | none =>
    simp only [Option.some.injEq] at hm
    subst hm
    refine ES.condT rfl ?_; refine .g0 ?_; repeat constructor
    refine ES.draw (X := Unit) (fun _ => [(6, .slice none 0 0), (7, .bool false), (8, Iv (st : Nat)), (9, Iv 0)]) (fun _ => []) (WB g51 s st [.slice none 0 0] 73 :: []) mixed (.i (by repeat constructor)) ?_ (fun _ => ?_)
    · refine .tk 0 rfl (RV.move rfl) ?_; refine .tk 1 rfl (RV.nilCheck rfl) ?_; refine .tk 2 rfl (RV.fieldAddr rfl rfl rfl rfl rfl rfl) ?_; refine .tk 3 rfl (RV.fieldAddr rfl rfl rfl rfl rfl rfl) ?_; refine .tk 4 rfl (RV.loadB rfl rfl rfl (by repeat constructor) rfl) ?_; refine .tk 5 rfl (RV.assign rfl) ?_; refine .tk 6 rfl (RV.assign rfl) ?_; refine .tk 7 rfl (RV.assign rfl) ?_; refine .tk 8 rfl (RV.assign rfl) ?_; refine .dn ?_
      exact .cy ()
    refine .go ?_; repeat constructor
    exact PX.ret rfl Tryz.results7 (.cons (.tmp rfl) (.cons (.tmp rfl) (.cons (.tmp rfl) (.cons (.tmp rfl) .nil)))) (fun w hs => ⟨(none, 0), rfl, hnil (hw1.join hs)⟩)
  | some ab =>
    obtain ⟨x, y⟩ := ab
    simp only at hm
    cases hwk : walkM s F (.one tree) x y ⟨(List.replicate (G + 1) (-1, -1)).set 0 ((x : Int), (y : Int)), st⟩ with
    | none => rw [hwk] at hm; cases hm
    | some zf =>
    rw [hwk] at hm
    simp only [Option.some.injEq] at hm
    subst hm
    refine ES.condF rfl ?_
    have hgc : (measM tree).cells[1]? = some (Iv (G : Nat)) := by rw [← hGr]; rfl
    refine .go ?_; (repeat constructor); refine .fa ?_; refine EL.loadOld (j := 1) rfl rfl rfl rfl rfl hrd12 hgc ?_; refine .a1 ?_; refine .mv ?_; refine .go ?_; (repeat constructor); refine ES.nilRow 29 2 ?_
    have hsR : ∀ n, spsC (List.replicate n (-1, -1) ++ [(-1, -1)]) = spsC (List.replicate (n + 1) (-1, -1)) := fun n => by rw [List.replicate_succ']
    refine ES.loop (σ := SpSt) (fun z => z.i ≤ G + 1) (fun z => [(10, Pv g10 0), (14, Pv g51 0), (15, Pv g15 0), (70, Iv ((G + 1 : Nat) : Int)), (71, Iv (z.i : Nat))])
      (fun z => WB g51 s st [.slice z.ad z.i z.cap] 73 :: HA.row (.slice z.ad z.i z.cap) 29 2 z.i (spsC (List.replicate z.i (-1, -1))) :: HA.blk g15 (.cells #[Iv (x : Nat), Iv (y : Nat)] 29) :: []) (fun z => G + 1 - z.i) ⟨0, none, 0⟩ (Nat.zero_le _) ⟨rfl, rfl, rfl, rfl, rfl, trivial⟩ (.i (by repeat constructor)) ?_
    rintro ⟨n, nad, ncap⟩ hn1
    dsimp only at hn1 ⊢
    refine .go ?_; (repeat constructor); refine .ls ?_; refine .go ?_; repeat constructor
    refine ES.condD rfl (fun hlt => ?_) (fun hge => ?_)
    · refine .go ?_; (repeat constructor); refine .mv ?_; refine .mv ?_; refine .nc ?_; refine .fa ?_; refine .lb ?_; refine EL.buildS #[Iv (-1), Iv (-1)] rfl rfl rfl rfl rfl (by kernel_rfl) rfl ?_; (refine .b1 ?_; intro b79)
      (refine EL.append1 rfl rfl rfl rfl rfl rfl rfl rfl rfl (by repeat constructor) (by repeat constructor) (by first | (intro u hu; simp [Value.cells] at hu; subst hu; rfl) | exact all1 rfl) (by rfl) (by unfold maxLen; omega) (by first | omega | (show 1 * _ ≤ _; omega) | (show 8 * _ ≤ _; omega) | (show 16 * _ ≤ _; omega) | (show 24 * _ ≤ _; omega) | (show _ * 1 ≤ _; omega) | (show _ * 8 ≤ _; omega) | (show _ * 16 ≤ _; omega) | (show _ * 24 ≤ _; omega) | exact Nat.le_trans (Nat.mul_le_mul_right _ (show _ ≤ 1073741824 by omega)) (by decide)) ?_; intro a80 c80)
      refine .nc ?_; refine .fa ?_; refine .sb ?_; refine .go ?_; (repeat constructor); refine .a1 ?_; refine .mv ?_; refine .go ?_; repeat constructor
      exact PX.loop ⟨n + 1, some ⟨a80, 0, none⟩, c80⟩ (by dsimp only; omega) (by simp only; omega) ⟨rfl, rfl, rfl, rfl, rfl, trivial⟩ (by dsimp only; rw [← hsR n, spsC_app]; exact (.i (by repeat constructor)))
    obtain rfl : n = G + 1 := by omega
    refine ES.rowForm (e := 29) (sz := 2) (n := G + 1) (cs := spsC (List.replicate (G + 1) (-1, -1))) (ad := nad) (len := G + 1) (cap := ncap) (by repeat constructor) (fun hf => ?_)
    obtain ⟨spg, rfl⟩ := hf.2.2.2.2 (by omega)
    have hput := spsC_set (List.replicate (G + 1) (-1, -1)) 0 (by simp) ((x : Int), (y : Int))
    have hsl := spsC_len (List.replicate (G + 1) (-1, -1))
    rw [List.length_replicate] at hsl
    generalize spsC (List.replicate (G + 1) (-1, -1)) = CS0 at hput hsl
    refine .g0 ?_; repeat constructor
    refine ES.draw (X := Unit) (fun _ => [(10, Pv g10 0), (14, Pv g51 0), (15, Pv g15 0)])
      (fun _ => SH g51 s (some ⟨spg, 0, none⟩) ncap ⟨(List.replicate (G + 1) (-1, -1)).set 0 ((x : Int), (y : Int)), st⟩ ++ (HA.blk g15 (.cells #[Iv (x : Nat), Iv (y : Nat)] 29) :: []))
      (WB g51 s st [.slice (some ⟨spg, 0, none⟩) (G + 1) ncap] 73 :: HA.blk g15 (.cells #[Iv (x : Nat), Iv (y : Nat)] 29) :: []) mixed (.i (by repeat constructor)) ?_ (fun _ => ?_)
    · refine .tk 0 rfl (RV.move rfl) ?_; refine .tk 1 rfl (RV.nilCheck rfl) ?_; refine .tk 2 rfl (RV.fieldAddr rfl rfl rfl rfl rfl rfl) ?_; refine .tk 3 rfl (RV.loadB rfl rfl rfl (by repeat constructor) rfl) ?_; refine .tk 4 rfl (RV.loadAggB rfl rfl rfl (by repeat constructor) rfl) ?_; refine .tk 5 rfl (RV.indexAddrL (i := 0) rfl rfl rfl rfl rfl (by omega)) ?_; refine ED.last 6 rfl (by decide +kernel) (by decide +kernel) (by decide +kernel) ?_
      (refine EL.storeRA (vs := spC ((x : Int), (y : Int))) rfl rfl rfl rfl rfl (by repeat constructor) (by rw [hsl]; show 0 + 0 * 2 + 2 ≤ _; omega) (all1 rfl) ?_; refine EL.rowEq (v := .slice (some ⟨spg, 0, none⟩) (G + 1) ncap) (by repeat constructor) hput ?_)
      refine EL.endQ ?_
      exact PX.cutX () ⟨rfl, rfl, rfl, trivial⟩ (by unfold SH PRow; dsimp only; rw [List.length_set, List.length_replicate]; exact (.i (by repeat constructor)))
    have hbd := find_bounds _ _ _ hfm (by omega)
    have hwc := setWalk_c (w0 := w1) (B := w1.heap.size) (gs := g51) (sp := some ⟨spg, 0, none⟩) (cap := ncap) hs2 F tree hpf g10 0 hn x y _ _ (by omega) (by omega) hwk
    refine .go ?_; (repeat constructor); refine .mv ?_; refine .fa ?_; refine .lb ?_; refine .fa ?_; refine .lb ?_; (refine EL.callMw rfl rfl rfl ent24 rfl hwc (by repeat constructor) ?_; intro u); refine .go ?_; (repeat constructor); refine ES.imp (H' := WB g51 s zf.steps [.slice (some ⟨spg, 0, none⟩) zf.spans.length ncap] 73 :: PRow (some ⟨spg, 0, none⟩) ncap zf.spans :: []) (fun w hs => hs.ent (.i (by repeat constructor))) ?_; refine .g0 ?_; repeat constructor
    refine ES.draw (X := Unit) (fun _ => [(6, .slice (some ⟨spg, 0, none⟩) zf.spans.length ncap), (7, .bool true), (8, Iv (zf.steps : Nat)), (9, Iv 0)]) (fun _ => PRow (some ⟨spg, 0, none⟩) ncap zf.spans :: []) (WB g51 s zf.steps [.slice (some ⟨spg, 0, none⟩) zf.spans.length ncap] 73 :: []) mixed (.i (by repeat constructor)) ?_ (fun _ => ?_)
    · refine .tk 0 rfl (RV.move rfl) ?_; refine .tk 1 rfl (RV.nilCheck rfl) ?_; refine .tk 2 rfl (RV.fieldAddr rfl rfl rfl rfl rfl rfl) ?_; refine .tk 3 rfl (RV.loadB rfl rfl rfl (by repeat constructor) rfl) ?_; refine .tk 4 rfl (RV.move rfl) ?_; refine .tk 5 rfl (RV.nilCheck rfl) ?_; refine .tk 6 rfl (RV.fieldAddr rfl rfl rfl rfl rfl rfl) ?_; refine .tk 7 rfl (RV.fieldAddr rfl rfl rfl rfl rfl rfl) ?_; refine .tk 8 rfl (RV.loadB rfl rfl rfl (by repeat constructor) rfl) ?_; refine .tk 9 rfl (RV.assign rfl) ?_; refine .tk 10 rfl (RV.assign rfl) ?_; refine .tk 11 rfl (RV.assign rfl) ?_; refine .tk 12 rfl (RV.assign rfl) ?_; refine .dn ?_
      exact .cy ()
    refine .go ?_; repeat constructor
    exact PX.ret rfl Tryz.results7 (.cons (.tmp rfl) (.cons (.tmp rfl) (.cons (.tmp rfl) (.cons (.tmp rfl) .nil)))) (fun w hs => ⟨(some ⟨spg, 0, none⟩, ncap), rfl, (hw1.join hs).ent (.i (by repeat constructor))⟩)
end Go.Proofs.YthcbjbkheodejaaGreat
namespace Go.Proofs.YthcbjbkheodejaaGreat
open Go Go.RowKit Sl
set_option maxRecDepth 100000
set_option maxHeartbeats 8000000
attribute [local irreducible] ES EL PX wps
def Iter (R : Nat → Nat → Prop) : Nat → Nat → Nat → Prop
  | 0, i, j => i = j
  | c + 1, i, j => ∃ m, R i m ∧ Iter R c m j
theorem Iter.snoc {R : Nat → Nat → Prop} : ∀ {c i m j}, Iter R c i m → R m j → Iter R (c + 1) i j
  | 0, i, m, j, h, hr => by
    have h : i = m := h
    subst h
    exact ⟨j, hr, rfl⟩
  | c + 1, i, m, j, ⟨u, h1, h2⟩, hr => ⟨u, h1, Iter.snoc h2 hr⟩
theorem Iter.add {R : Nat → Nat → Prop} : ∀ {c d i j}, Iter R (c + d) i j ↔ ∃ m, Iter R c i m ∧ Iter R d m j
  | 0, d, i, j => by
    rw [Nat.zero_add]
    exact ⟨fun h => ⟨i, rfl, h⟩, fun ⟨m, h1, h2⟩ => by cases (show i = m from h1); exact h2⟩
  | c + 1, d, i, j => by
    rw [Nat.succ_add]
    constructor
    · rintro ⟨u, h1, h2⟩
      obtain ⟨m, h3, h4⟩ := Iter.add.1 h2
      exact ⟨m, ⟨u, h1, h3⟩, h4⟩
    · rintro ⟨m, ⟨u, h1, h3⟩, h4⟩
      exact ⟨u, h1, Iter.add.2 ⟨m, h3, h4⟩⟩
def RepN (lo : Nat) (hi : Int) (k : RE) (c : Nat) : Prop := leastM lo k ≤ c ∧ (if hi = (lo : Int) ∨ k.thin = true then c = leastM lo k else hi < 0 ∨ c ≤ leastM lo k + (hi.toNat - lo))
mutual
def Hit (s : List UInt8) : RE → Nat → Nat → Prop
  | .byte S, i, j => (i < s.length ∧ hasS S (s.getD i 0).toNat = true) ∧ j = i + 1
  | .bol, i, j => i = 0 ∧ j = i
  | .eol, i, j => i = s.length ∧ j = i
  | .back _, i, j => j = i ∨ (i < j ∧ j ≤ s.length)
  | .group _ k, i, j => Hit s k i j
  | .cat ks, i, j => HitL s ks i j
  | .rep lo hi k, i, j => ∃ c, RepN lo hi k c ∧ Iter (Hit s k) c i j
def HitL (s : List UInt8) : List RE → Nat → Nat → Prop
  | [], i, j => i = j
  | k :: ks, i, j => ∃ m, Hit s k i m ∧ HitL s ks m j
end
abbrev ERow (a : AM) (q : Nat) : List Ed := a.out.getD q []
abbrev FW (s : List UInt8) (a : AM) (x y : Nat × Nat) : Prop := Rch a.out s true x y
theorem getD_nil {l : List (List Ed)} {q : Nat} (h : l.length ≤ q) : l.getD q [] = [] := by
  rw [List.getD_eq_getElem?_getD, List.getElem?_eq_none h]; rfl
theorem row_lt {a : AM} {q : Nat} {e : Ed} (h : e ∈ ERow a q) : q < a.out.length := by
  apply Decidable.byContradiction
  intro hn
  rw [show ERow a q = [] from getD_nil (by omega)] at h
  cases h
theorem getD_addTo (l : List (List Ed)) (f q : Nat) (e : Ed) (hf : f < l.length) : (addTo l f e).getD q [] = if q = f then l.getD q [] ++ [e] else l.getD q [] := by
  unfold addTo
  by_cases h : q = f
  · subst h
    rw [if_pos rfl]
    simp [List.getD_eq_getElem?_getD, hf]
  · rw [if_neg h, List.getD_eq_getElem?_getD, List.getElem?_set, if_neg (fun e => h e.symm), ← List.getD_eq_getElem?_getD]
theorem getD_new (l : List (List Ed)) (q : Nat) : (l ++ [[]]).getD q [] = l.getD q [] := by
  rw [List.getD_eq_getElem?_getD, List.getD_eq_getElem?_getD]
  by_cases h : q < l.length
  · rw [List.getElem?_append_left h]
  · rw [List.getElem?_append_right (by omega), List.getElem?_eq_none (show l.length ≤ q by omega)]
    cases q - l.length with
    | zero => rfl
    | succ n => rfl
theorem row_link {a : AM} {f t k : Nat} {S : BS} (hf : f < a.out.length) (q : Nat) : ERow (a.link f t k S) q = if q = f then ERow a q ++ [⟨k, S, t⟩] else ERow a q := getD_addTo _ _ _ _ hf
theorem row_step {a : AM} {f k : Nat} {S : BS} (hf : f < a.out.length) (q : Nat) : ERow (a.step f k S) q = if q = f then ERow a q ++ [⟨k, S, a.out.length⟩] else ERow a q := by
  unfold AM.step
  rw [row_link (by rw [add_len]; omega), show ERow a.add q = ERow a q from getD_new _ _]
theorem Rch.mono {es es' : List (List Ed)} {s : List UInt8} {fwd : Bool} {x y : Nat × Nat} (h : ∀ q e, e ∈ es.getD q [] → e ∈ es'.getD q []) (hr : Rch es s fwd x y) : Rch es' s fwd x y := by
  induction hr with
  | here => exact .here
  | step _ he hp ih => exact .step ih (h _ _ he) hp
theorem Rch.trans {es : List (List Ed)} {s : List UInt8} {fwd : Bool} {x y z : Nat × Nat} (h1 : Rch es s fwd x y) (h2 : Rch es s fwd y z) : Rch es s fwd x z := by
  induction h2 with
  | here => exact h1
  | step _ he hp ih => exact .step ih he hp
theorem Rch.dead {es : List (List Ed)} {s : List UInt8} {fwd : Bool} {q i : Nat} {y : Nat × Nat} (hd : es.getD q [] = []) (h : Rch es s fwd (q, i) y) : y = (q, i) := by
  induction h with
  | here => rfl
  | step _ he _ ih =>
    injection ih with h1 h2
    subst h1
    rw [hd] at he
    cases he
theorem Rch.inv {es : List (List Ed)} {s : List UInt8} {fwd : Bool} {x : Nat × Nat} {t b : Nat} (h : Rch es s fwd x (t, b)) : x = (t, b) ∨ ∃ q a e, Rch es s fwd x (q, a) ∧ e ∈ es.getD q [] ∧ e.to = t ∧ placeM s fwd e a = some b := by
  cases h with
  | here => exact .inl rfl
  | step h he hp => exact .inr ⟨_, _, _, h, he, rfl, hp⟩
theorem eps_place (s : List UInt8) (fwd : Bool) (S : BS) (t a : Nat) : placeM s fwd ⟨0, S, t⟩ a = some a := rfl
def Wf (a : AM) : Prop := ∀ q, ∀ e ∈ ERow a q, e.to < a.out.length
theorem wf_link {a : AM} {f t k : Nat} {S : BS} (h : Wf a) (hf : f < a.out.length) (ht : t < a.out.length) : Wf (a.link f t k S) := fun q e he => by
  rw [(link_len _ _ _ _ _).1]
  rw [row_link hf] at he
  split at he
  · rcases List.mem_append.1 he with he | he
    · exact h q e he
    · rw [List.mem_singleton] at he; subst he; exact ht
  · exact h q e he
theorem wf_step {a : AM} {f k : Nat} {S : BS} (h : Wf a) (hf : f < a.out.length) : Wf (a.step f k S) := fun q e he => by
  rw [step_len]
  rw [row_step hf] at he
  split at he
  · rcases List.mem_append.1 he with he | he
    · have := h q e he; omega
    · rw [List.mem_singleton] at he; subst he; exact Nat.lt_succ_self _
  · have := h q e he; omega
structure Grow (a b : AM) (p : Nat) : Prop where
  len : a.out.length ≤ b.out.length
  sub : ∀ q, ∀ e ∈ ERow a q, e ∈ ERow b q
  new : ∀ q, ∀ e ∈ ERow b q, e ∈ ERow a q ∨ ((q = p ∨ a.out.length ≤ q) ∧ a.out.length ≤ e.to)
theorem Grow.refl (a : AM) (p : Nat) : Grow a a p := ⟨Nat.le_refl _, fun _ _ h => h, fun _ _ h => .inl h⟩
theorem Grow.comp {a b c : AM} {p q : Nat} (h1 : Grow a b p) (h2 : Grow b c q) (hq : q = p ∨ a.out.length ≤ q) : Grow a c p := by
  have := h1.len
  refine ⟨Nat.le_trans h1.len h2.len, fun r e h => h2.sub r e (h1.sub r e h), fun r e h => ?_⟩
  rcases h2.new r e h with h | ⟨hr, ht⟩
  · exact h1.new r e h
  · right
    refine ⟨?_, by omega⟩
    rcases hr with rfl | hr
    · exact hq
    · right; omega
theorem Grow.old {s : List UInt8} {a b : AM} {p x0 i y j : Nat} (h : Grow a b p) (hw : Wf a) (hx : x0 < a.out.length) (hy : y < a.out.length) : FW s b (x0, i) (y, j) ↔ FW s a (x0, i) (y, j) := by
  refine ⟨fun hr => ?_, fun hr => hr.mono h.sub⟩
  have key : ∀ z, FW s b (x0, i) z → z.1 < a.out.length → FW s a (x0, i) z := by
    intro z hz
    induction hz with
    | here => exact fun _ => .here
    | step h1 he hp ih =>
      intro hlt
      rcases h.new _ _ he with he | ⟨_, h3⟩
      · exact .step (ih (row_lt he)) he hp
      · have hlt : _ < a.out.length := hlt
        dsimp only at hlt
        omega
  exact key _ hr hy
theorem grow_step {a : AM} {p k : Nat} {S : BS} (hp : p < a.out.length) : Grow a (a.step p k S) p := by
  refine ⟨by rw [step_len]; omega, fun q e h => ?_, fun q e h => ?_⟩
  · rw [row_step hp]; split
    · exact List.mem_append.2 (.inl h)
    · exact h
  · rw [row_step hp] at h
    split at h
    · rename_i e1
      rcases List.mem_append.1 h with h | h
      · exact .inl h
      · rw [List.mem_singleton] at h; subst h; exact .inr ⟨.inl e1, Nat.le_refl _⟩
    · exact .inl h
theorem step_hit {s : List UInt8} {a : AM} {p k x0 i j : Nat} {S : BS} (hw : Wf a) (hp : p < a.out.length) (hx : x0 < a.out.length) : FW s (a.step p k S) (x0, i) (a.out.length, j) ↔ ∃ m, FW s a (x0, i) (p, m) ∧ placeM s true ⟨k, S, a.out.length⟩ m = some j := by
  have hg := grow_step (k := k) (S := S) hp
  constructor
  · intro h
    rcases h.inv with h | ⟨q, m, e, h1, he, ht, hpl⟩
    · injection h with h1 h2; omega
    · have he' : e ∈ ERow (a.step p k S) q := he
      rw [row_step hp] at he'
      split at he'
      · rename_i e1
        rcases List.mem_append.1 he' with he' | he'
        · have := hw q e he'; omega
        · rw [List.mem_singleton] at he'; subst he' e1
          exact ⟨m, (hg.old hw hx hp).1 h1, hpl⟩
      · have := hw q e he'; omega
  · rintro ⟨m, h1, h2⟩
    refine Rch.step (e := ⟨k, S, a.out.length⟩) (h1.mono hg.sub) ?_ h2
    show _ ∈ ERow (a.step p k S) p
    rw [row_step hp, if_pos rfl]
    simp
structure LayH (s : List UInt8) (f : AM → Nat → AM × Nat) (R : Nat → Nat → Prop) : Prop where
  wf : ∀ a p, Wf a → p < a.out.length → Wf (f a p).1
  grow : ∀ a p, Wf a → p < a.out.length → Grow a (f a p).1 p
  out : ∀ a p, Wf a → p < a.out.length → ((f a p).2 = p ∨ a.out.length ≤ (f a p).2) ∧ (f a p).2 < (f a p).1.out.length
  hit : ∀ a p x0 i j, Wf a → p < a.out.length → x0 < a.out.length → (FW s (f a p).1 (x0, i) ((f a p).2, j) ↔ ∃ m, FW s a (x0, i) (p, m) ∧ R m j)
theorem LayH.iff {s : List UInt8} {f : AM → Nat → AM × Nat} {R R' : Nat → Nat → Prop} (h : LayH s f R) (e : ∀ i j, R i j ↔ R' i j) : LayH s f R' :=
  ⟨h.wf, h.grow, h.out, fun a p x0 i j h1 h2 h3 => (h.hit a p x0 i j h1 h2 h3).trans ⟨fun ⟨m, a, b⟩ => ⟨m, a, (e _ _).1 b⟩, fun ⟨m, a, b⟩ => ⟨m, a, (e _ _).2 b⟩⟩⟩
theorem LayH.id (s : List UInt8) : LayH s (fun a p => (a, p)) (fun i j => i = j) :=
  ⟨fun _ _ h _ => h, fun a p _ _ => Grow.refl a p, fun _ _ _ h => ⟨.inl rfl, h⟩, fun a p x0 i j _ _ _ => ⟨fun h => ⟨j, h, rfl⟩, fun ⟨m, h, e⟩ => e ▸ h⟩⟩
theorem LayH.seq {s : List UInt8} {f g : AM → Nat → AM × Nat} {R R' : Nat → Nat → Prop} (h1 : LayH s f R) (h2 : LayH s g R') : LayH s (fun a p => g (f a p).1 (f a p).2) (fun i j => ∃ m, R i m ∧ R' m j) := by
  refine ⟨fun a p hw hp => h2.wf _ _ (h1.wf a p hw hp) (h1.out a p hw hp).2, fun a p hw hp => (h1.grow a p hw hp).comp (h2.grow _ _ (h1.wf a p hw hp) (h1.out a p hw hp).2) (h1.out a p hw hp).1, fun a p hw hp => ?_, fun a p x0 i j hw hp hx => ?_⟩
  · have e1 := h1.out a p hw hp
    have e2 := h2.out _ _ (h1.wf a p hw hp) e1.2
    have e3 := (h1.grow a p hw hp).len
    refine ⟨?_, e2.2⟩
    rcases e2.1 with e | e
    · rw [e]; exact e1.1
    · right; omega
  · have e1 := h1.out a p hw hp
    have e3 := (h1.grow a p hw hp).len
    rw [h2.hit _ _ x0 i j (h1.wf a p hw hp) e1.2 (by omega)]
    constructor
    · rintro ⟨m, hm, hr⟩
      obtain ⟨m0, h3, h4⟩ := (h1.hit a p x0 i m hw hp hx).1 hm
      exact ⟨m0, h3, m, h4, hr⟩
    · rintro ⟨m0, h3, m, h4, hr⟩
      exact ⟨m, (h1.hit a p x0 i m hw hp hx).2 ⟨m0, h3, h4⟩, hr⟩
theorem LayH.times {s : List UInt8} {f : AM → Nat → AM × Nat} {R : Nat → Nat → Prop} (h : LayH s f R) : ∀ n, LayH s (timesA f n) (Iter R n)
  | 0 => LayH.id s
  | n + 1 => (LayH.seq h (LayH.times h n))
theorem LayH.edge (s : List UInt8) (k : Nat) (S : BS) (R : Nat → Nat → Prop) (hR : ∀ t i j, placeM s true ⟨k, S, t⟩ i = some j ↔ R i j) : LayH s (fun a p => (a.step p k S, a.out.length)) R :=
  ⟨fun a p hw hp => wf_step hw hp, fun a p _ hp => grow_step hp, fun a p _ hp => ⟨.inr (Nat.le_refl _), by rw [step_len]; exact Nat.lt_succ_self _⟩, fun a p x0 i j hw hp hx => (step_hit hw hp hx).trans ⟨fun ⟨m, h1, h2⟩ => ⟨m, h1, (hR _ _ _).1 h2⟩, fun ⟨m, h1, h2⟩ => ⟨m, h1, (hR _ _ _).2 h2⟩⟩⟩
def starA (f : AM → Nat → AM × Nat) (a : AM) (p : Nat) : AM × Nat :=
  ((f (a.step p 0 zeroS) a.out.length).1.link (f (a.step p 0 zeroS) a.out.length).2 a.out.length 0 zeroS, a.out.length)
theorem LayH.star {s : List UInt8} {f : AM → Nat → AM × Nat} {R : Nat → Nat → Prop} (h : LayH s f R) : LayH s (starA f) (fun i j => ∃ c, Iter R c i j) := by
  have all : ∀ a p, Wf a → p < a.out.length → Wf (starA f a p).1 ∧ Grow a (starA f a p).1 p ∧ a.out.length < (starA f a p).1.out.length ∧ ∀ x0 i j, x0 < a.out.length → (FW s (starA f a p).1 (x0, i) (a.out.length, j) ↔ ∃ m, FW s a (x0, i) (p, m) ∧ ∃ c, Iter R c m j) := by
    intro a p hw hp
    have hw2 := wf_step (k := 0) (S := zeroS) hw hp
    have hl2 : (a.step p 0 zeroS).out.length = a.out.length + 1 := step_len _ _ _ _
    have hh : a.out.length < (a.step p 0 zeroS).out.length := by omega
    have hg2 := grow_step (k := 0) (S := zeroS) hp
    have hw3 := h.wf _ _ hw2 hh
    have hg3 := h.grow _ _ hw2 hh
    obtain ⟨ho, hlt⟩ := h.out _ _ hw2 hh
    have hhit := fun x0 i j => h.hit _ a.out.length x0 i j hw2 hh
    have hrow2 := fun q => row_step (k := 0) (S := zeroS) hp q
    unfold starA
    dsimp only
    generalize f (a.step p 0 zeroS) a.out.length = y at hw3 hg3 ho hlt hhit
    obtain ⟨a3, q3⟩ := y
    dsimp only at hw3 hg3 ho hlt hhit ⊢
    have hl3 := hg3.len
    have hrow4 := fun q => row_link (k := 0) (S := zeroS) (t := a.out.length) hlt q
    have hsub4 : ∀ q, ∀ e ∈ ERow a3 q, e ∈ ERow (a3.link q3 a.out.length 0 zeroS) q := fun q e he => by
      rw [hrow4]; split
      · exact List.mem_append.2 (.inl he)
      · exact he
    have hl4 : (a3.link q3 a.out.length 0 zeroS).out.length = a3.out.length := (link_len _ _ _ _ _).1
    have hdead : ERow (a.step p 0 zeroS) a.out.length = [] := by
      rw [hrow2, if_neg (by omega)]
      exact getD_nil (Nat.le_refl _)
    refine ⟨wf_link hw3 hlt (by omega), ⟨by rw [hl4]; omega, fun q e he => hsub4 q e (hg3.sub q e (hg2.sub q e he)), fun q e he => ?_⟩, by rw [hl4]; omega, fun x0 i j hx => ⟨fun hr => ?_, ?_⟩⟩
    · have h23 := hg2.comp hg3 (.inr (Nat.le_refl _))
      rw [hrow4] at he
      split at he
      · rename_i e1
        rcases List.mem_append.1 he with he | he
        · exact h23.new q e he
        · rw [List.mem_singleton] at he; subst he e1
          refine .inr ⟨.inr (by omega), Nat.le_refl _⟩
      · exact h23.new q e he
    · have key : ∀ z, FW s (a3.link q3 a.out.length 0 zeroS) (x0, i) z → (z.1 < a.out.length ∧ FW s a (x0, i) z) ∨ ∃ m c m', FW s a (x0, i) (p, m) ∧ Iter R c m m' ∧ FW s a3 (a.out.length, m') z := by
        intro z hz
        induction hz with
        | here => exact .inl ⟨hx, .here⟩
        | @step q u b e h1 he hpl ih =>
          have he' : e ∈ ERow (a3.link q3 a.out.length 0 zeroS) q := he
          rw [hrow4] at he'
          have hcase : e ∈ ERow a3 q ∨ (q = q3 ∧ e = ⟨0, zeroS, a.out.length⟩) := by
            split at he'
            · rename_i e1
              rcases List.mem_append.1 he' with he' | he'
              · exact .inl he'
              · exact .inr ⟨e1, List.mem_singleton.1 he'⟩
            · exact .inl he'
          rcases hcase with he3 | ⟨rfl, rfl⟩
          · rcases ih with ⟨hq, hold⟩ | ⟨m, c, m', k1, k2, k3⟩
            · have hq : q < a.out.length := hq
              rcases hg3.new q e he3 with he2 | ⟨hbad, _⟩
              · rw [hrow2] at he2
                split at he2
                · rename_i e1
                  rcases List.mem_append.1 he2 with he2 | he2
                  · exact .inl ⟨hw q e he2, .step hold he2 hpl⟩
                  · rw [List.mem_singleton] at he2; subst he2 e1
                    rw [eps_place] at hpl
                    cases hpl
                    exact .inr ⟨u, 0, u, hold, rfl, .here⟩
                · exact .inl ⟨hw q e he2, .step hold he2 hpl⟩
              · omega
            · exact .inr ⟨m, c, m', k1, k2, .step k3 he3 hpl⟩
          · rw [eps_place] at hpl
            cases hpl
            rcases ih with ⟨hq, hold⟩ | ⟨m, c, m', k1, k2, k3⟩
            · have hq : q < a.out.length := hq
              omega
            · obtain ⟨m2, k4, k5⟩ := (hhit _ _ _ hh).1 k3
              have := Rch.dead hdead k4
              injection this with _ e2
              subst e2
              exact .inr ⟨m, c + 1, u, k1, k2.snoc k5, .here⟩
      rcases key _ hr with ⟨hbad, _⟩ | ⟨m, c, m', k1, k2, k3⟩
      · exact absurd hbad (by dsimp only; omega)
      · have k4 := (hg3.old hw2 hh hh).1 k3
        have := Rch.dead hdead k4
        injection this with _ e2
        subst e2
        exact ⟨m, k1, c, k2⟩
    · rintro ⟨m, h1, c, hc⟩
      have hbase : FW s (a3.link q3 a.out.length 0 zeroS) (x0, i) (a.out.length, m) := by
        have h2 := (step_hit (k := 0) (S := zeroS) hw hp hx (j := m) (s := s) (i := i)).2 ⟨m, h1, rfl⟩
        exact (h2.mono hg3.sub).mono hsub4
      clear h1
      induction c generalizing m with
      | zero =>
        cases (show m = j from hc)
        exact hbase
      | succ c ih =>
        obtain ⟨m1, k1, k2⟩ := hc
        refine ih m1 k2 ?_
        have h3 : FW s a3 (a.out.length, m) (q3, m1) := (hhit _ _ _ hh).2 ⟨m, .here, k1⟩
        refine Rch.step (e := ⟨0, zeroS, a.out.length⟩) (hbase.trans (h3.mono hsub4)) ?_ (eps_place _ _ _ _ _)
        show _ ∈ ERow _ q3
        rw [hrow4, if_pos rfl]
        simp
  exact ⟨fun a p hw hp => (all a p hw hp).1, fun a p hw hp => (all a p hw hp).2.1, fun a p hw hp => ⟨.inr (Nat.le_refl _), (all a p hw hp).2.2.1⟩, fun a p x0 i j hw hp hx => (all a p hw hp).2.2.2 x0 i j hx⟩
end Go.Proofs.YthcbjbkheodejaaGreat
namespace Go.Proofs.YthcbjbkheodejaaGreat
open Go Go.RowKit Sl
set_option maxRecDepth 100000
set_option maxHeartbeats 8000000
attribute [local irreducible] ES EL PX wps
theorem opt_all {s : List UInt8} {f : AM → Nat → AM × Nat} {R : Nat → Nat → Prop} (h : LayH s f R) (o : Nat) : ∀ (n : Nat) (a : AM) (p : Nat), Wf a → p < a.out.length → o < a.out.length → o ≠ p → ERow a o = [] →
    Wf (optA f o n a p) ∧ a.out.length ≤ (optA f o n a p).out.length ∧ (∀ q, ∀ e ∈ ERow a q, e ∈ ERow (optA f o n a p) q) ∧ (∀ q, ∀ e ∈ ERow (optA f o n a p) q, e ∈ ERow a q ∨ ((q = p ∨ a.out.length ≤ q) ∧ (e.to = o ∨ a.out.length ≤ e.to))) ∧
    ∀ x0 i j, x0 < a.out.length → (FW s (optA f o n a p) (x0, i) (o, j) ↔ FW s a (x0, i) (o, j) ∨ ∃ m c, FW s a (x0, i) (p, m) ∧ 1 ≤ c ∧ c ≤ n ∧ Iter R c m j)
  | 0, a, p, hw, hp, ho, hne, hd => ⟨hw, Nat.le_refl _, fun _ _ h => h, fun _ _ h => .inl h, fun x0 i j hx => ⟨.inl, fun h => by
    rcases h with h | ⟨m, c, _, h1, h2, _⟩
    · exact h
    · omega⟩⟩
  | n + 1, a, p, hw, hp, ho, hne, hd => by
    have hw1 := h.wf a p hw hp
    have hg := h.grow a p hw hp
    obtain ⟨hout, hlt⟩ := h.out a p hw hp
    have hhit := fun x0 i j => h.hit a p x0 i j hw hp
    rw [show optA f o (n + 1) a p = optA f o n ((f a p).1.link (f a p).2 o 0 zeroS) (f a p).2 from rfl]
    generalize f a p = y at hw1 hg hout hlt hhit
    obtain ⟨a1, p1⟩ := y
    dsimp only at hw1 hg hout hlt hhit ⊢
    have hl1 := hg.len
    have hne1 : o ≠ p1 := by
      rcases hout with e | e
      · rw [e]; exact hne
      · omega
    have hd1 : ERow a1 o = [] := by
      apply List.eq_nil_iff_forall_not_mem.2
      intro e he
      rcases hg.new o e he with h | ⟨h, _⟩
      · rw [hd] at h; cases h
      · omega
    have hrow2 := fun q => row_link (k := 0) (S := zeroS) (t := o) hlt q
    have hl2 : (a1.link p1 o 0 zeroS).out.length = a1.out.length := (link_len _ _ _ _ _).1
    have hw2 : Wf (a1.link p1 o 0 zeroS) := wf_link hw1 hlt (by omega)
    have hd2 : ERow (a1.link p1 o 0 zeroS) o = [] := by rw [hrow2, if_neg hne1]; exact hd1
    obtain ⟨k1, k2, k3, k4, k5⟩ := opt_all h o n _ p1 hw2 (by omega) (by omega) hne1 hd2
    have hsub2 : ∀ q, ∀ e ∈ ERow a1 q, e ∈ ERow (a1.link p1 o 0 zeroS) q := fun q e he => by
      rw [hrow2]; split
      · exact List.mem_append.2 (.inl he)
      · exact he
    have hrow3 : ∀ q, ∀ e ∈ ERow (a1.link p1 o 0 zeroS) q, e ∈ ERow a1 q ∨ (q = p1 ∧ e = ⟨0, zeroS, o⟩) := fun q e he => by
      rw [hrow2] at he
      split at he
      · rename_i e1
        rcases List.mem_append.1 he with he | he
        · exact .inl he
        · exact .inr ⟨e1, List.mem_singleton.1 he⟩
      · exact .inl he
    have hother : ∀ x z, FW s (a1.link p1 o 0 zeroS) x z → z.1 ≠ o → FW s a1 x z := by
      intro x z hz
      induction hz with
      | here => exact fun _ => .here
      | @step q u b e h1 he hpl ih =>
        intro hzo
        rcases hrow3 q e he with he1 | ⟨rfl, rfl⟩
        · exact .step (ih (fun e1 => by
            have e1 : q = o := e1
            rw [e1, hd1] at he1; cases he1)) he1 hpl
        · exact absurd rfl hzo
    have hexit : ∀ x0 i j, FW s (a1.link p1 o 0 zeroS) (x0, i) (o, j) ↔ FW s a1 (x0, i) (o, j) ∨ FW s a1 (x0, i) (p1, j) := by
      intro x0 i j
      constructor
      · intro hr
        rcases hr.inv with e | ⟨q, u, e, h1, he, ht, hpl⟩
        · rw [e]; exact .inl .here
        · rcases hrow3 q e he with he1 | ⟨rfl, rfl⟩
          · left
            have hq : q ≠ o := fun e1 => by rw [e1, hd1] at he1; cases he1
            have := Rch.step (hother _ _ h1 hq) he1 hpl
            rw [ht] at this; exact this
          · rw [eps_place] at hpl
            cases hpl
            exact .inr (hother _ _ h1 (fun e => hne1 e.symm))
      · rintro (h1 | h1)
        · exact h1.mono hsub2
        · refine Rch.step (e := ⟨0, zeroS, o⟩) (h1.mono hsub2) ?_ (eps_place _ _ _ _ _)
          show _ ∈ ERow _ p1
          rw [hrow2, if_pos rfl]; simp
    refine ⟨k1, by omega, fun q e he => k3 q e (hsub2 q e (hg.sub q e he)), fun q e he => ?_, fun x0 i j hx => ?_⟩
    · rcases k4 q e he with he2 | ⟨hq, ht⟩
      · rcases hrow3 q e he2 with he1 | ⟨rfl, rfl⟩
        · rcases hg.new q e he1 with h1 | ⟨h1, h2⟩
          · exact .inl h1
          · exact .inr ⟨h1, .inr h2⟩
        · exact .inr ⟨hout, .inl rfl⟩
      · rw [hl2] at hq ht
        right
        constructor
        · rcases hq with rfl | hq
          · exact hout
          · right; omega
        · rcases ht with ht | ht
          · exact .inl ht
          · right; omega
    · rw [k5 x0 i j (by omega), hexit]
      constructor
      · rintro ((h1 | h1) | ⟨m, c, h1, c1, c2, hc⟩)
        · exact .inl ((hg.old hw hx ho).1 h1)
        · obtain ⟨m, h2, h3⟩ := (hhit x0 i j hx).1 h1
          exact .inr ⟨m, 1, h2, by omega, by omega, j, h3, rfl⟩
        · have h2 := hother _ _ h1 (fun e => hne1 e.symm)
          obtain ⟨m0, h3, h4⟩ := (hhit x0 i m hx).1 h2
          exact .inr ⟨m0, c + 1, h3, by omega, by omega, m, h4, hc⟩
      · rintro (h1 | ⟨m, c, h1, c1, c2, hc⟩)
        · exact .inl (.inl ((hg.old hw hx ho).2 h1))
        · cases c with
          | zero => omega
          | succ c =>
            obtain ⟨m1, h2, h3⟩ := hc
            have h4 : FW s a1 (x0, i) (p1, m1) := (hhit x0 i m1 hx).2 ⟨m, h1, h2⟩
            cases c with
            | zero =>
              cases (show m1 = j from h3)
              exact .inl (.inr h4)
            | succ c => exact .inr ⟨m1, c + 1, h4.mono hsub2, by omega, by omega, h3⟩
def questA (f : AM → Nat → AM × Nat) (n : Nat) (a : AM) (p : Nat) : AM × Nat := (optA f a.out.length n (a.step p 0 zeroS) p, a.out.length)
theorem LayH.quest {s : List UInt8} {f : AM → Nat → AM × Nat} {R : Nat → Nat → Prop} (h : LayH s f R) (n : Nat) : LayH s (questA f n) (fun i j => ∃ c, c ≤ n ∧ Iter R c i j) := by
  have all : ∀ a p, Wf a → p < a.out.length → Wf (questA f n a p).1 ∧ Grow a (questA f n a p).1 p ∧ a.out.length < (questA f n a p).1.out.length ∧ ∀ x0 i j, x0 < a.out.length → (FW s (questA f n a p).1 (x0, i) (a.out.length, j) ↔ ∃ m, FW s a (x0, i) (p, m) ∧ ∃ c, c ≤ n ∧ Iter R c m j) := by
    intro a p hw hp
    have hw2 := wf_step (k := 0) (S := zeroS) hw hp
    have hl2 : (a.step p 0 zeroS).out.length = a.out.length + 1 := step_len _ _ _ _
    have hg2 := grow_step (k := 0) (S := zeroS) hp
    have hdead : ERow (a.step p 0 zeroS) a.out.length = [] := by
      rw [row_step hp, if_neg (by omega)]
      exact getD_nil (Nat.le_refl _)
    obtain ⟨k1, k2, k3, k4, k5⟩ := opt_all h a.out.length n (a.step p 0 zeroS) p hw2 (by omega) (by omega) (by omega) hdead
    unfold questA
    dsimp only
    refine ⟨k1, ⟨by omega, fun q e he => k3 q e (hg2.sub q e he), fun q e he => ?_⟩, by omega, fun x0 i j hx => ?_⟩
    · rcases k4 q e he with he | ⟨hq, ht⟩
      · exact hg2.new q e he
      · exact .inr ⟨by omega, by omega⟩
    · rw [k5 x0 i j (by omega)]
      constructor
      · rintro (h1 | ⟨m, c, h1, c1, c2, hc⟩)
        · obtain ⟨m, h2, h3⟩ := (step_hit hw hp hx).1 h1
          rw [eps_place] at h3
          cases h3
          exact ⟨_, h2, 0, Nat.zero_le _, rfl⟩
        · exact ⟨m, (hg2.old hw hx hp).1 h1, c, c2, hc⟩
      · rintro ⟨m, h1, c, c2, hc⟩
        cases c with
        | zero =>
          cases (show m = j from hc)
          exact .inl ((step_hit hw hp hx).2 ⟨_, h1, rfl⟩)
        | succ c => exact .inr ⟨m, c + 1, (hg2.old hw hx hp).2 h1, by omega, c2, hc⟩
  exact ⟨fun a p hw hp => (all a p hw hp).1, fun a p hw hp => (all a p hw hp).2.1, fun a p hw hp => ⟨.inr (Nat.le_refl _), (all a p hw hp).2.2.1⟩, fun a p x0 i j hw hp hx => (all a p hw hp).2.2.2 x0 i j hx⟩
theorem LayH.rep {s : List UInt8} {f : AM → Nat → AM × Nat} {R : Nat → Nat → Prop} (h : LayH s f R) (lo : Nat) (hi : Int) (k : RE) : LayH s (repA lo hi k f) (fun i j => ∃ c, RepN lo hi k c ∧ Iter R c i j) := by
  by_cases hc : hi = (lo : Int) ∨ k.thin = true
  · have e : repA lo hi k f = timesA f (leastM lo k) := by
      funext a p
      unfold repA
      dsimp only
      rw [if_pos hc]
    rw [e]
    refine (h.times _).iff fun i j => ⟨fun hh => ⟨_, ⟨Nat.le_refl _, by rw [if_pos hc]⟩, hh⟩, fun ⟨c, ⟨_, h2⟩, hh⟩ => ?_⟩
    rw [if_pos hc] at h2
    rw [h2] at hh
    exact hh
  by_cases hn : hi < 0
  · have e : repA lo hi k f = fun a p => starA f (timesA f (leastM lo k) a p).1 (timesA f (leastM lo k) a p).2 := by
      funext a p
      unfold repA starA
      dsimp only
      rw [if_neg hc, if_pos hn]
    rw [e]
    refine ((h.times _).seq h.star).iff fun i j => ⟨fun ⟨m, h1, c, h2⟩ => ⟨leastM lo k + c, ⟨Nat.le_add_right _ _, by rw [if_neg hc]; exact .inl hn⟩, Iter.add.2 ⟨m, h1, h2⟩⟩, fun ⟨c, ⟨h1, _⟩, hh⟩ => ?_⟩
    obtain ⟨d, rfl⟩ := Nat.exists_eq_add_of_le h1
    obtain ⟨m, h3, h4⟩ := Iter.add.1 hh
    exact ⟨m, h3, d, h4⟩
  · have e : repA lo hi k f = fun a p => questA f (hi.toNat - lo) (timesA f (leastM lo k) a p).1 (timesA f (leastM lo k) a p).2 := by
      funext a p
      unfold repA questA
      dsimp only
      rw [if_neg hc, if_neg hn]
    rw [e]
    refine ((h.times _).seq (h.quest _)).iff fun i j => ⟨fun ⟨m, h1, c, hcn, h2⟩ => ⟨leastM lo k + c, ⟨Nat.le_add_right _ _, by rw [if_neg hc]; exact .inr (by omega)⟩, Iter.add.2 ⟨m, h1, h2⟩⟩, fun ⟨c, ⟨h1, h5⟩, hh⟩ => ?_⟩
    rw [if_neg hc] at h5
    obtain ⟨d, rfl⟩ := Nat.exists_eq_add_of_le h1
    obtain ⟨m, h3, h4⟩ := Iter.add.1 hh
    exact ⟨m, h3, d, by omega, h4⟩
theorem all_has : ∀ b : UInt8, hasS (notS zeroS) b.toNat = true := by
  have h : ∀ b : Fin 256, hasS (notS zeroS) b.val = true := by decide +kernel
  exact fun b => h ⟨b.toNat, b.toNat_lt⟩
theorem LayH.any (s : List UInt8) : LayH s (fun a p => ((a.step p 0 zeroS).link a.out.length a.out.length 1 (notS zeroS), a.out.length)) (fun i j => j = i ∨ (i < j ∧ j ≤ s.length)) := by
  have all : ∀ a p, Wf a → p < a.out.length → Wf ((a.step p 0 zeroS).link a.out.length a.out.length 1 (notS zeroS)) ∧ Grow a ((a.step p 0 zeroS).link a.out.length a.out.length 1 (notS zeroS)) p ∧ a.out.length < ((a.step p 0 zeroS).link a.out.length a.out.length 1 (notS zeroS)).out.length ∧
      ∀ x0 i j, x0 < a.out.length → (FW s ((a.step p 0 zeroS).link a.out.length a.out.length 1 (notS zeroS)) (x0, i) (a.out.length, j) ↔ ∃ m, FW s a (x0, i) (p, m) ∧ (j = m ∨ (m < j ∧ j ≤ s.length))) := by
    intro a p hw hp
    have hw2 := wf_step (k := 0) (S := zeroS) hw hp
    have hl2 : (a.step p 0 zeroS).out.length = a.out.length + 1 := step_len _ _ _ _
    have hg2 := grow_step (k := 0) (S := zeroS) hp
    have hh : a.out.length < (a.step p 0 zeroS).out.length := by omega
    have hdead : ERow (a.step p 0 zeroS) a.out.length = [] := by
      rw [row_step hp, if_neg (by omega)]
      exact getD_nil (Nat.le_refl _)
    have hrow3 := fun q => row_link (k := 1) (S := notS zeroS) (t := a.out.length) hh q
    have hl3 : ((a.step p 0 zeroS).link a.out.length a.out.length 1 (notS zeroS)).out.length = (a.step p 0 zeroS).out.length := (link_len _ _ _ _ _).1
    have hsub3 : ∀ q, ∀ e ∈ ERow (a.step p 0 zeroS) q, e ∈ ERow ((a.step p 0 zeroS).link a.out.length a.out.length 1 (notS zeroS)) q := fun q e he => by
      rw [hrow3]; split
      · exact List.mem_append.2 (.inl he)
      · exact he
    have hcase : ∀ q, ∀ e ∈ ERow ((a.step p 0 zeroS).link a.out.length a.out.length 1 (notS zeroS)) q, e ∈ ERow (a.step p 0 zeroS) q ∨ (q = a.out.length ∧ e = ⟨1, notS zeroS, a.out.length⟩) := fun q e he => by
      rw [hrow3] at he
      split at he
      · rename_i e1
        rcases List.mem_append.1 he with he | he
        · exact .inl he
        · exact .inr ⟨e1, List.mem_singleton.1 he⟩
      · exact .inl he
    refine ⟨wf_link hw2 hh hh, ⟨by omega, fun q e he => hsub3 q e (hg2.sub q e he), fun q e he => ?_⟩, by omega, fun x0 i j hx => ⟨fun hr => ?_, ?_⟩⟩
    · rcases hcase q e he with he | ⟨rfl, rfl⟩
      · exact hg2.new q e he
      · exact .inr ⟨.inr (Nat.le_refl _), Nat.le_refl _⟩
    · have key : ∀ z, FW s ((a.step p 0 zeroS).link a.out.length a.out.length 1 (notS zeroS)) (x0, i) z → (z.1 < a.out.length ∧ FW s a (x0, i) z) ∨ ∃ m, FW s a (x0, i) (p, m) ∧ z.1 = a.out.length ∧ (z.2 = m ∨ (m < z.2 ∧ z.2 ≤ s.length)) := by
        intro z hz
        induction hz with
        | here => exact .inl ⟨hx, .here⟩
        | @step q u b e h1 he hpl ih =>
          rcases hcase q e he with he2 | ⟨rfl, rfl⟩
          · rcases ih with ⟨hq, hold⟩ | ⟨m, k1, k2, k3⟩
            · have hq : q < a.out.length := hq
              rw [row_step hp] at he2
              split at he2
              · rename_i e1
                rcases List.mem_append.1 he2 with he2 | he2
                · exact .inl ⟨hw q e he2, .step hold he2 hpl⟩
                · rw [List.mem_singleton] at he2; subst he2 e1
                  rw [eps_place] at hpl
                  cases hpl
                  exact .inr ⟨u, hold, rfl, .inl rfl⟩
              · exact .inl ⟨hw q e he2, .step hold he2 hpl⟩
            · have k2 : q = a.out.length := k2
              rw [k2, hdead] at he2
              cases he2
          · rcases ih with ⟨hq, hold⟩ | ⟨m, k1, k2, k3⟩
            · have hq : a.out.length < a.out.length := hq
              omega
            · dsimp only at k3 ⊢
              unfold placeM inB at hpl
              simp at hpl
              exact .inr ⟨m, k1, rfl, .inr (by omega)⟩
      rcases key _ hr with ⟨hbad, _⟩ | ⟨m, k1, _, k3⟩
      · exact absurd hbad (by dsimp only; omega)
      · exact ⟨m, k1, k3⟩
    · rintro ⟨m, h1, hj⟩
      have hbase : FW s ((a.step p 0 zeroS).link a.out.length a.out.length 1 (notS zeroS)) (x0, i) (a.out.length, m) :=
        ((step_hit (k := 0) (S := zeroS) hw hp hx (j := m) (s := s) (i := i)).2 ⟨m, h1, rfl⟩).mono hsub3
      have hgo : ∀ d, m + d ≤ s.length → FW s ((a.step p 0 zeroS).link a.out.length a.out.length 1 (notS zeroS)) (x0, i) (a.out.length, m + d) := by
        intro d
        induction d with
        | zero => exact fun _ => hbase
        | succ d ih =>
          intro hd
          refine Rch.step (e := ⟨1, notS zeroS, a.out.length⟩) (ih (by omega)) ?_ (b := m + (d + 1)) ?_
          · show _ ∈ ERow _ a.out.length
            rw [hrow3, if_pos rfl]; simp
          · have := all_has (s.getD (m + d) 0)
            unfold placeM inB bAt
            simp only [if_true, this, and_true, decide_eq_true_eq]
            rw [if_pos (by omega)]
            rfl
      rcases hj with rfl | ⟨h2, h3⟩
      · exact hbase
      · have := hgo (j - m) (by omega)
        rw [show m + (j - m) = j by omega] at this
        exact this
  exact ⟨fun a p hw hp => (all a p hw hp).1, fun a p hw hp => (all a p hw hp).2.1, fun a p hw hp => ⟨.inr (Nat.le_refl _), (all a p hw hp).2.2.1⟩, fun a p x0 i j hw hp hx => (all a p hw hp).2.2.2 x0 i j hx⟩
mutual
theorem lay_hit (s : List UInt8) : ∀ r : RE, LayH s (layM r) (Hit s r)
  | .byte S => by
    rw [show layM (.byte S) = fun a p => (a.step p 1 S, a.out.length) from by funext a p; rw [layM]]
    refine LayH.edge s 1 S _ fun t i j => ?_
    rw [Hit]
    unfold placeM inB bAt
    simp only [if_true, decide_eq_true_eq]
    constructor
    · intro h
      split at h
      · rename_i h1; cases h; exact ⟨h1, rfl⟩
      · cases h
    · rintro ⟨h1, rfl⟩
      rw [if_pos h1]
  | .bol => by
    rw [show layM .bol = fun a p => (a.step p 2 zeroS, a.out.length) from by funext a p; rw [layM]]
    refine LayH.edge s 2 zeroS _ fun t i j => ?_
    rw [Hit]
    unfold placeM
    simp only [show ¬ ((2 : Nat) = 1) by omega, if_false, if_true]
    constructor
    · intro h
      split at h
      · rename_i h1; cases h; exact ⟨h1, rfl⟩
      · cases h
    · rintro ⟨h1, rfl⟩
      rw [if_pos h1]
  | .eol => by
    rw [show layM .eol = fun a p => (a.step p 3 zeroS, a.out.length) from by funext a p; rw [layM]]
    refine LayH.edge s 3 zeroS _ fun t i j => ?_
    rw [Hit]
    unfold placeM
    simp only [show ¬ ((3 : Nat) = 1) by omega, show ¬ ((3 : Nat) = 2) by omega, if_false, if_true]
    constructor
    · intro h
      split at h
      · rename_i h1; cases h; exact ⟨h1, rfl⟩
      · cases h
    · rintro ⟨h1, rfl⟩
      rw [if_pos h1]
  | .back n => by
    rw [show layM (.back n) = fun a p => ((a.step p 0 zeroS).link a.out.length a.out.length 1 (notS zeroS), a.out.length) from by funext a p; rw [layM]]
    exact (LayH.any s).iff fun i j => by rw [Hit]
  | .rep lo hi k => by
    rw [show layM (.rep lo hi k) = repA lo hi k (layM k) from by funext a p; rw [layM]]
    exact (LayH.rep (lay_hit s k) lo hi k).iff fun i j => by rw [Hit]
  | .cat ks => by
    rw [show layM (.cat ks) = layL ks from by funext a p; rw [layM]]
    exact (layL_hit s ks).iff fun i j => by rw [Hit]
  | .group n k => by
    rw [show layM (.group n k) = layM k from by funext a p; rw [layM]]
    exact (lay_hit s k).iff fun i j => by rw [Hit]
theorem layL_hit (s : List UInt8) : ∀ ks : List RE, LayH s (layL ks) (HitL s ks)
  | [] => by
    rw [show layL [] = fun a p => (a, p) from by funext a p; rw [layL]]
    exact (LayH.id s).iff fun i j => by rw [HitL]
  | k :: ks => by
    rw [show layL (k :: ks) = fun a p => layL ks (layM k a p).1 (layM k a p).2 from by funext a p; rw [layL]]
    exact ((lay_hit s k).seq (layL_hit s ks)).iff fun i j => by rw [HitL]
end
theorem make_hit (s : List UInt8) (ks : List RE) (i j : Nat) : FW s (makeM ks).1 (0, i) ((makeM ks).2, j) ↔ HitL s ks i j := by
  have hw : Wf (AM.add ⟨[], []⟩) := fun q e he => by
    rw [show ERow (AM.add ⟨[], []⟩) q = ERow ⟨[], []⟩ q from getD_new _ _] at he
    cases he
  refine ((layL_hit s ks).hit (AM.add ⟨[], []⟩) 0 0 i j hw (by decide) (by decide)).trans ⟨fun ⟨m, h1, h2⟩ => ?_, fun h => ⟨i, .here, h⟩⟩
  have := Rch.dead rfl h1
  injection this with _ e
  subst e
  exact h2
theorem ends_iff {ks : List RE} (hc : costL ks + 1 ≤ 131072) (s : List UInt8) {i j : Nat} (st : Nat) (hi : i ≤ s.length) (hj : j ≤ s.length) : (endsM (makeM ks) s i st).marks.getD j false = true ↔ HitL s ks i j := by
  obtain ⟨hr, hlt⟩ := make_room ks hc
  obtain ⟨done, hd⟩ := flood_spec hr.eo s (x0 := (0, i)) (by omega) hi (makeM ks).2 true st
  exact (hd.marks j hj).trans (make_hit s ks i j)
theorem place_rev (s : List UInt8) (k t q : Nat) (S : BS) (a b : Nat) : placeM s true ⟨k, S, t⟩ a = some b ↔ placeM s false ⟨k, S, q⟩ b = some a := by
  unfold placeM inB bAt
  dsimp only
  by_cases h1 : k = 1
  · simp only [h1, if_true, Bool.false_eq_true, if_false, decide_eq_true_eq]
    constructor
    · intro h
      split at h
      · rename_i h2; cases h
        rw [show a + 1 - 1 = a by omega, if_pos ⟨⟨by omega, h2.1⟩, h2.2⟩]
      · cases h
    · intro h
      split at h
      · rename_i h2; cases h
        rw [if_pos ⟨h2.1.2, h2.2⟩, show b - 1 + 1 = b by omega]
      · cases h
  · simp only [h1, if_false]
    by_cases h2 : k = 2
    · simp only [h2, if_true]
      constructor <;> intro h <;> split at h <;> first | (rename_i h3; cases h; rw [if_pos h3]) | cases h
    · simp only [h2, if_false]
      by_cases h3 : k = 3
      · simp only [h3, if_true]
        constructor <;> intro h <;> split at h <;> first | (rename_i h4; cases h; rw [if_pos h4]) | cases h
      · simp only [h3, if_false, Option.some.injEq]
        exact eq_comm
def Rev (a : AM) : Prop := a.back.length = a.out.length ∧ ∀ q t k S, (⟨k, S, t⟩ : Ed) ∈ a.out.getD q [] ↔ (⟨k, S, q⟩ : Ed) ∈ a.back.getD t []
theorem rev_add {a : AM} (h : Rev a) : Rev a.add := ⟨by simp [AM.add, h.1], fun q t k S => by
  rw [show a.add.out.getD q [] = a.out.getD q [] from getD_new _ _, show a.add.back.getD t [] = a.back.getD t [] from getD_new _ _]
  exact h.2 q t k S⟩
theorem rev_link {a : AM} {f t k : Nat} {S : BS} (h : Rev a) (hf : f < a.out.length) (ht : t < a.out.length) : Rev (a.link f t k S) := by
  refine ⟨by rw [(link_len _ _ _ _ _).1, (link_len _ _ _ _ _).2]; exact h.1, fun q t' k' S' => ?_⟩
  rw [show (a.link f t k S).out.getD q [] = _ from getD_addTo _ _ _ _ hf, show (a.link f t k S).back.getD t' [] = _ from getD_addTo _ _ _ _ (by rw [h.1]; exact ht)]
  have h2 := h.2 q t' k' S'
  have e1 : (⟨k', S', t'⟩ : Ed) ∈ (if q = f then a.out.getD q [] ++ [⟨k, S, t⟩] else a.out.getD q []) ↔ (⟨k', S', t'⟩ : Ed) ∈ a.out.getD q [] ∨ (q = f ∧ k' = k ∧ S' = S ∧ t' = t) := by
    split <;> simp_all
  have e2 : (⟨k', S', q⟩ : Ed) ∈ (if t' = t then a.back.getD t' [] ++ [⟨k, S, f⟩] else a.back.getD t' []) ↔ (⟨k', S', q⟩ : Ed) ∈ a.back.getD t' [] ∨ (t' = t ∧ k' = k ∧ S' = S ∧ q = f) := by
    split <;> simp_all
  rw [e1, e2, h2]
  constructor
  · rintro (h | ⟨h1, h2, h3, h4⟩)
    · exact .inl h
    · exact .inr ⟨h4, h2, h3, h1⟩
  · rintro (h | ⟨h1, h2, h3, h4⟩)
    · exact .inl h
    · exact .inr ⟨h4, h2, h3, h1⟩
theorem Rch.rev {es es' : List (List Ed)} {s : List UInt8} (hrev : ∀ q t k S, (⟨k, S, t⟩ : Ed) ∈ es.getD q [] ↔ (⟨k, S, q⟩ : Ed) ∈ es'.getD t []) {x y : Nat × Nat} : Rch es s true x y ↔ Rch es' s false y x := by
  constructor
  · intro h
    induction h with
    | here => exact .here
    | @step q a b e h1 he hp ih =>
      obtain ⟨k, S, t⟩ := e
      exact Rch.trans (Rch.step (e := ⟨k, S, q⟩) .here ((hrev q t k S).1 he) ((place_rev s k t q S a b).1 hp)) ih
  · intro h
    induction h with
    | here => exact .here
    | @step q a b e h1 he hp ih =>
      obtain ⟨k, S, t⟩ := e
      exact Rch.trans (Rch.step (e := ⟨k, S, q⟩) .here ((hrev t q k S).2 he) ((place_rev s k q t S b a).2 hp)) ih
end Go.Proofs.YthcbjbkheodejaaGreat
namespace Go.Proofs.YthcbjbkheodejaaGreat
open Go Go.RowKit Sl
set_option maxRecDepth 100000
set_option maxHeartbeats 8000000
attribute [local irreducible] ES EL PX wps
structure Inv (P : AM → Prop) : Prop where
  add : ∀ a, P a → P a.add
  link : ∀ a f t k S, P a → f < a.out.length → t < a.out.length → P (a.link f t k S)
def Pres (P : AM → Prop) (f : AM → Nat → AM × Nat) : Prop := ∀ a p, P a → p < a.out.length → P (f a p).1 ∧ (f a p).2 < (f a p).1.out.length ∧ a.out.length ≤ (f a p).1.out.length
theorem Inv.step {P : AM → Prop} (hP : Inv P) {a : AM} {f k : Nat} {S : BS} (h : P a) (hf : f < a.out.length) : P (a.step f k S) :=
  hP.link _ _ _ _ _ (hP.add _ h) (by rw [add_len]; omega) (by rw [add_len]; omega)
theorem times_pres {P : AM → Prop} {f : AM → Nat → AM × Nat} (hf : Pres P f) : ∀ n, Pres P (timesA f n)
  | 0, a, p, h, hp => ⟨h, hp, Nat.le_refl _⟩
  | n + 1, a, p, h, hp => by
    have h1 := hf a p h hp
    have h2 := times_pres hf n _ _ h1.1 h1.2.1
    exact ⟨h2.1, h2.2.1, Nat.le_trans h1.2.2 h2.2.2⟩
theorem opt_pres {P : AM → Prop} (hP : Inv P) {f : AM → Nat → AM × Nat} (hf : Pres P f) (o : Nat) : ∀ n a p, P a → p < a.out.length → o < a.out.length → P (optA f o n a p) ∧ a.out.length ≤ (optA f o n a p).out.length
  | 0, a, p, h, _, _ => ⟨h, Nat.le_refl _⟩
  | n + 1, a, p, h, hp, ho => by
    have h1 := hf a p h hp
    have hl : ((f a p).1.link (f a p).2 o 0 zeroS).out.length = (f a p).1.out.length := (link_len _ _ _ _ _).1
    have h2 := opt_pres hP hf o n _ (f a p).2 (hP.link _ _ _ 0 zeroS h1.1 h1.2.1 (show o < _ by omega)) (by omega) (by omega)
    exact ⟨h2.1, by have := h2.2; rw [optA]; omega⟩
theorem rep_pres {P : AM → Prop} (hP : Inv P) {f : AM → Nat → AM × Nat} (hf : Pres P f) (lo : Nat) (hi : Int) (k : RE) : Pres P (repA lo hi k f) := fun a p h hp => by
  have h1 := times_pres hf (leastM lo k) a p h hp
  unfold repA
  dsimp only
  generalize timesA f (leastM lo k) a p = x at h1
  obtain ⟨a1, p1⟩ := x
  dsimp only at h1 ⊢
  split
  · exact h1
  · have h2 : P (a1.step p1 0 zeroS) := hP.step h1.1 h1.2.1
    have hl2 : (a1.step p1 0 zeroS).out.length = a1.out.length + 1 := step_len _ _ _ _
    split
    · have h3 := hf (a1.step p1 0 zeroS) a1.out.length h2 (by omega)
      dsimp only
      refine ⟨hP.link _ _ _ _ _ h3.1 h3.2.1 (by omega), ?_, ?_⟩ <;> rw [(link_len _ _ _ _ _).1] <;> omega
    · have h3 := opt_pres hP hf a1.out.length (hi.toNat - lo) (a1.step p1 0 zeroS) p1 h2 (by omega) (by omega)
      exact ⟨h3.1, by dsimp only; omega, by dsimp only; omega⟩
mutual
theorem lay_pres {P : AM → Prop} (hP : Inv P) : ∀ r : RE, Pres P (layM r)
  | .byte S, a, p, h, hp => by
    rw [layM]
    exact ⟨hP.step h hp, by dsimp only; rw [step_len]; omega, by dsimp only; rw [step_len]; omega⟩
  | .bol, a, p, h, hp => by
    rw [layM]
    exact ⟨hP.step h hp, by dsimp only; rw [step_len]; omega, by dsimp only; rw [step_len]; omega⟩
  | .eol, a, p, h, hp => by
    rw [layM]
    exact ⟨hP.step h hp, by dsimp only; rw [step_len]; omega, by dsimp only; rw [step_len]; omega⟩
  | .back n, a, p, h, hp => by
    rw [layM]
    refine ⟨hP.link _ _ _ _ _ (hP.step h hp) (by rw [step_len]; omega) (by rw [step_len]; omega), ?_, ?_⟩ <;> dsimp only <;> rw [(link_len _ _ _ _ _).1, step_len] <;> omega
  | .rep lo hi k, a, p, h, hp => by
    rw [layM]
    exact rep_pres hP (lay_pres hP k) lo hi k a p h hp
  | .cat ks, a, p, h, hp => by
    rw [layM]
    exact layL_pres hP ks a p h hp
  | .group n k, a, p, h, hp => by
    rw [layM]
    exact lay_pres hP k a p h hp
theorem layL_pres {P : AM → Prop} (hP : Inv P) : ∀ ks : List RE, Pres P (layL ks)
  | [], a, p, h, hp => by
    rw [layL]
    exact ⟨h, hp, Nat.le_refl _⟩
  | k :: ks, a, p, h, hp => by
    rw [layL]
    have h1 := lay_pres hP k a p h hp
    have h2 := layL_pres hP ks _ _ h1.1 h1.2.1
    exact ⟨h2.1, h2.2.1, Nat.le_trans h1.2.2 h2.2.2⟩
end
theorem make_rev (ks : List RE) : Rev (makeM ks).1 := by
  have h0 : Rev ⟨[], []⟩ := ⟨rfl, fun q t k S => by simp⟩
  exact (layL_pres (P := Rev) ⟨fun _ h => rev_add h, fun _ _ _ _ _ h h1 h2 => rev_link h h1 h2⟩ ks (AM.add ⟨[], []⟩) 0 (rev_add h0) (by decide)).1
theorem starts_iff {ks : List RE} (hc : costL ks + 1 ≤ 131072) (s : List UInt8) {i j : Nat} (st : Nat) (hi : i ≤ s.length) (hj : j ≤ s.length) : (startsM (makeM ks) s j st).marks.getD i false = true ↔ HitL s ks i j := by
  obtain ⟨hr, hlt⟩ := make_room ks hc
  obtain ⟨done, hd⟩ := flood_spec hr.eb s (x0 := ((makeM ks).2, j)) (by rw [hr.same]; exact hlt) hj 0 false st
  refine (hd.marks i hi).trans (Iff.trans ?_ (make_hit s ks i j))
  exact (Rch.rev (make_rev ks).2).symm
theorem startsM_steps {A : AM × Nat} (hr : A.1.Room 0) {s : List UInt8} (hs : s.length ≤ 1024) (j st : Nat) : (startsM A s j st).steps ≤ st + 17609365913600 :=
  floodM_steps (by have := hr.out; have := hr.same; omega) (fun l hl => by have := hr.rb l hl; omega) s hs (A.2, j) 0 false st
end Go.Proofs.YthcbjbkheodejaaGreat
namespace Go.Proofs.YthcbjbkheodejaaGreat
open Go Go.RowKit Sl
set_option maxRecDepth 100000
set_option maxHeartbeats 8000000
attribute [local irreducible] ES EL PX wps
theorem endsM_le {A : AM × Nat} (hr : A.1.Room 0) {s : List UInt8} (hs : s.length ≤ 1024) (i st : Nat) : (endsM A s i st).steps ≤ st + 17609365913600 :=
  floodM_steps (by have := hr.out; omega) (fun l hl => by have := hr.ro l hl; omega) s hs (0, i) A.2 true st
theorem flood_up {es : List (List Ed)} (hes : EdsOk es) (s : List UInt8) {x0 : Nat × Nat} (h1 : x0.1 < es.length) (h2 : x0.2 ≤ s.length) (goal : Nat) (fwd : Bool) (st : Nat) : st ≤ (floodM es s x0 goal fwd st).steps := by
  obtain ⟨done, hd⟩ := flood_spec hes s h1 h2 goal fwd st
  rw [hd.steps]; omega
theorem dn_head (i : Nat) (f : Nat → Bool) {p : Nat} (hf : f p = true) : ∀ n, i ≤ p → p < i + n → (∀ q, p < q → q < i + n → f q = false) → ((dnL i n).filter f).head? = some p ∧ (dnL i n).find? f = some p
  | 0, h1, h2, _ => by omega
  | n + 1, h1, h2, h3 => by
    rw [dnL, List.filter_cons, List.find?_cons]
    by_cases h : p = i + n
    · subst h
      rw [hf]
      exact ⟨rfl, rfl⟩
    · rw [h3 (i + n) (by omega) (by omega)]
      exact dn_head i f hf n h1 (by omega) (fun q hq1 hq2 => h3 q hq1 (by omega))
structure First (s : List UInt8) (hd tl : List RE) (i e j : Nat) : Prop where
  ch : costL hd + 1 ≤ 131072
  ct : costL tl + 1 ≤ 131072
  ie : i ≤ e
  ej : e ≤ j
  hh : HitL s hd i e
  ht : HitL s tl e j
  no : ∀ p, e < p → p ≤ j → ¬ (HitL s hd i p ∧ HitL s tl p j)
abbrev floodC : Nat := 17609365913600
theorem cut_first {s : List UInt8} (hs : s.length ≤ 1024) {hd tl : List RE} {i e j st : Nat} (h : First s hd tl i e j) (hj : j ≤ s.length) (hst : st ≤ 576460752303423488) : ∃ st', cutS s hd tl i j st = some (e, st') ∧ st ≤ st' ∧ st' ≤ st + 2 * floodC := by
  have hie := h.ie
  have hej := h.ej
  obtain ⟨hr1, hl1⟩ := make_room hd h.ch
  obtain ⟨hr2, hl2⟩ := make_room tl h.ct
  have hE := fun p (hp : p ≤ s.length) => ends_iff h.ch s (i := i) (j := p) st (by omega) hp
  have hS := fun p (hp : p ≤ s.length) => starts_iff h.ct s (i := p) (j := j) (splE s hd i st).steps hp hj
  have hhead := (dn_head i (fun p => (splE s hd i st).marks.getD p false && (splS s hd tl i j st).marks.getD p false) (p := e) (by
      rw [Bool.and_eq_true]
      exact ⟨(hE e (by omega)).2 h.hh, (hS e (by omega)).2 h.ht⟩) (j + 1 - i) hie (by omega) (fun q h1 h2 => by
      rw [Bool.eq_false_iff]
      intro hq
      rw [Bool.and_eq_true] at hq
      exact h.no q h1 (by omega) ⟨(hE q (by omega)).1 hq.1, (hS q (by omega)).1 hq.2⟩)).1
  have hup1 := flood_up hr1.eo s (x0 := (0, i)) (by omega) (show i ≤ s.length by omega) (makeM hd).2 true st
  have hup2 := flood_up hr2.eb s (x0 := ((makeM tl).2, j)) (by rw [hr2.same]; exact hl2) hj 0 false (splE s hd i st).steps
  have hup1' : st ≤ (splE s hd i st).steps := hup1
  have hup2' : (splE s hd i st).steps ≤ (splS s hd tl i j st).steps := hup2
  have hb1 : (splE s hd i st).steps ≤ st + 17609365913600 := endsM_le hr1 hs i st
  have hb2 : (splS s hd tl i j st).steps ≤ (splE s hd i st).steps + 17609365913600 := startsM_steps hr2 hs j _
  refine ⟨(splS s hd tl i j st).steps, ?_, by omega, by unfold floodC; omega⟩
  unfold cutS
  rw [if_pos ⟨hst, h.ch, h.ct, by omega, hj⟩]
  have hspl : (splL s hd tl i j st).head? = some e := hhead
  cases hx : splL s hd tl i j st with
  | nil => rw [hx] at hspl; cases hspl
  | cons p l => rw [hx] at hspl; cases hspl; rfl
inductive Wk (s : List UInt8) : WT → Nat → Nat → List Spn → List Spn → Nat → Nat → Prop
  | group {n k i j z z' f c} (hn : n < z.length) (h : Wk s (.one k) i j (z.set n ((i : Int), (j : Int))) z' f c) : Wk s (.one (.group n k)) i j z z' (f + 1) c
  | cat {ks i j z z' f c} (h : Wk s (.cat ks) i j z z' f c) : Wk s (.one (.cat ks)) i j z z' (f + 1) c
  | rep {lo hi k i j z z' f c} (h : Wk s (.rep lo hi k 0) i j z z' f c) : Wk s (.one (.rep lo hi k)) i j z z' (f + 1) c
  | byte {S i j z} : Wk s (.one (.byte S)) i j z z 1 0
  | bol {i j z} : Wk s (.one .bol) i j z z 1 0
  | eol {i j z} : Wk s (.one .eol) i j z z 1 0
  | nil {i j z} : Wk s (.cat []) i j z z 1 0
  | last {k i j z z' f c} (h : Wk s (.one k) i j z z' f c) : Wk s (.cat [k]) i j z z' (f + 1) c
  | cons {k k' ks i e j z z1 z2 f c c2} (hf : First s [k] (k' :: ks) i e j) (h1 : Wk s (.one k) i e z z1 f c) (h2 : Wk s (.cat (k' :: ks)) e j z1 z2 f c2) : Wk s (.cat (k :: k' :: ks)) i j z z2 (f + 1) (c + c2 + 1)
  | end0 {lo hi k t j z z' f c} (ht : t < leastM lo k) (h : Wk s (.one k) j j z z' f c) : Wk s (.rep lo hi k t) j j z z' (f + 1) c
  | end1 {lo hi k t j z} (ht : ¬ t < leastM lo k) : Wk s (.rep lo hi k t) j j z z 1 0
  | turn {lo hi k t i e j z z1 z2 f c c2} (hij : i ≠ j) (ht : t ≤ 1000000) (hf : First s [k] [leftM lo hi k (t + 1)] i e j) (h1 : Wk s (.one k) i e z z1 f c) (h2 : Wk s (.rep lo hi k (t + 1)) e j z1 z2 f c2) : Wk s (.rep lo hi k t) i j z z2 (f + 1) (c + c2 + 1)
  | more {wt i j z z' f c} (h : Wk s wt i j z z' f c) : Wk s wt i j z z' (f + 1) c
theorem Wk.fuel {s : List UInt8} {wt : WT} {i j f c : Nat} {z z' : List Spn} (h : Wk s wt i j z z' f c) {f' : Nat} (hf : f ≤ f') : Wk s wt i j z z' f' c := by
  obtain ⟨d, rfl⟩ := Nat.exists_eq_add_of_le hf
  clear hf
  induction d with
  | zero => exact h
  | succ d ih => exact .more ih
theorem Wk.run {s : List UInt8} (hs : s.length ≤ 1024) {wt : WT} {i j f c : Nat} {z z' : List Spn} (h : Wk s wt i j z z' f c) : i ≤ j → j ≤ s.length → ∀ F st, f ≤ F → st + c * (2 * floodC) ≤ 576460752303423488 → ∃ st', walkM s F wt i j ⟨z, st⟩ = some ⟨z', st'⟩ ∧ st ≤ st' ∧ st' ≤ st + c * (2 * floodC) := by
  induction h with
  | group hn h ih =>
    intro h1 h2 F st hF hst
    obtain ⟨F, rfl⟩ : ∃ F', F = F' + 1 := ⟨F - 1, by omega⟩
    rw [walkM, if_pos hn]
    exact ih h1 h2 F st (by omega) hst
  | cat h ih =>
    intro h1 h2 F st hF hst
    obtain ⟨F, rfl⟩ : ∃ F', F = F' + 1 := ⟨F - 1, by omega⟩
    rw [walkM]
    exact ih h1 h2 F st (by omega) hst
  | rep h ih =>
    intro h1 h2 F st hF hst
    obtain ⟨F, rfl⟩ : ∃ F', F = F' + 1 := ⟨F - 1, by omega⟩
    rw [walkM]
    exact ih h1 h2 F st (by omega) hst
  | byte =>
    intro h1 h2 F st hF hst
    obtain ⟨F, rfl⟩ : ∃ F', F = F' + 1 := ⟨F - 1, by omega⟩
    exact ⟨st, by simp [walkM], Nat.le_refl _, by omega⟩
  | bol =>
    intro h1 h2 F st hF hst
    obtain ⟨F, rfl⟩ : ∃ F', F = F' + 1 := ⟨F - 1, by omega⟩
    exact ⟨st, by simp [walkM], Nat.le_refl _, by omega⟩
  | eol =>
    intro h1 h2 F st hF hst
    obtain ⟨F, rfl⟩ : ∃ F', F = F' + 1 := ⟨F - 1, by omega⟩
    exact ⟨st, by simp [walkM], Nat.le_refl _, by omega⟩
  | nil =>
    intro h1 h2 F st hF hst
    obtain ⟨F, rfl⟩ : ∃ F', F = F' + 1 := ⟨F - 1, by omega⟩
    exact ⟨st, by simp [walkM], Nat.le_refl _, by omega⟩
  | last h ih =>
    intro h1 h2 F st hF hst
    obtain ⟨F, rfl⟩ : ∃ F', F = F' + 1 := ⟨F - 1, by omega⟩
    rw [walkM]
    exact ih h1 h2 F st (by omega) hst
  | @cons k k' ks i e j z z1 z2 f c c2 hf _ _ ih1 ih2 =>
    intro h1 h2 F st hF hst
    obtain ⟨F, rfl⟩ : ∃ F', F = F' + 1 := ⟨F - 1, by omega⟩
    have hmul : (c + c2 + 1) * (2 * floodC) = c * (2 * floodC) + c2 * (2 * floodC) + 2 * floodC := by rw [Nat.add_mul, Nat.add_mul, Nat.one_mul]
    rw [hmul] at hst
    have hie := hf.ie
    have hej := hf.ej
    obtain ⟨st1, e1, e2, e3⟩ := cut_first hs hf h2 (st := st) (by omega)
    obtain ⟨st2, e4, e5, e6⟩ := ih1 hie (by omega) F st1 (by omega) (by omega)
    obtain ⟨st3, e7, e8, e9⟩ := ih2 hej h2 F st2 (by omega) (by omega)
    refine ⟨st3, ?_, by omega, by rw [hmul]; omega⟩
    rw [walkM]
    simp only [e1, e4, e7]
  | @end0 lo hi k t j z z' f c ht h ih =>
    intro h1 h2 F st hF hst
    obtain ⟨F, rfl⟩ : ∃ F', F = F' + 1 := ⟨F - 1, by omega⟩
    rw [walkM, if_pos rfl, if_pos ht]
    exact ih h1 h2 F st (by omega) hst
  | @end1 lo hi k t j z ht =>
    intro h1 h2 F st hF hst
    obtain ⟨F, rfl⟩ : ∃ F', F = F' + 1 := ⟨F - 1, by omega⟩
    exact ⟨st, by rw [walkM, if_pos rfl, if_neg ht], Nat.le_refl _, by omega⟩
  | @turn lo hi k t i e j z z1 z2 f c c2 hij ht hf _ _ ih1 ih2 =>
    intro h1 h2 F st hF hst
    obtain ⟨F, rfl⟩ : ∃ F', F = F' + 1 := ⟨F - 1, by omega⟩
    have hmul : (c + c2 + 1) * (2 * floodC) = c * (2 * floodC) + c2 * (2 * floodC) + 2 * floodC := by rw [Nat.add_mul, Nat.add_mul, Nat.one_mul]
    rw [hmul] at hst
    have hie := hf.ie
    have hej := hf.ej
    obtain ⟨st1, e1, e2, e3⟩ := cut_first hs hf h2 (st := st) (by omega)
    obtain ⟨st2, e4, e5, e6⟩ := ih1 hie (by omega) F st1 (by omega) (by omega)
    obtain ⟨st3, e7, e8, e9⟩ := ih2 hej h2 F st2 (by omega) (by omega)
    refine ⟨st3, ?_, by omega, by rw [hmul]; omega⟩
    rw [walkM, if_neg hij, if_neg (by omega)]
    simp only [e1, e4, e7]
  | more h ih =>
    intro h1 h2 F st hF hst
    exact ih h1 h2 F st (by omega) hst
theorem last_some {s : List UInt8} {r : RE} (hc : costL [r] + 1 ≤ 131072) {i b st : Nat} (hi : i ≤ b) (hb : b ≤ s.length) (hit : HitL s [r] i b) (last : ∀ b', b < b' → b' ≤ s.length → ¬ HitL s [r] i b') : lastT (endsM (makeM [r]) s i st).marks i (s.length + 1 - i) = some b := by
  have hE := fun p (hp : p ≤ s.length) => ends_iff hc s (i := i) (j := p) st (by omega) hp
  exact (dn_head i (fun p => (endsM (makeM [r]) s i st).marks.getD p false) (p := b) ((hE b hb).2 hit) _ hi (by omega) (fun q h1 h2 => by
    rw [Bool.eq_false_iff]
    exact fun hq => last q h1 (by omega) ((hE q (by omega)).1 hq))).2
theorem last_none {s : List UInt8} {r : RE} (hc : costL [r] + 1 ≤ 131072) {i st : Nat} (hi : i ≤ s.length) (no : ∀ b', ¬ HitL s [r] i b') : lastT (endsM (makeM [r]) s i st).marks i (s.length + 1 - i) = none := by
  have hE := fun p (hp : p ≤ s.length) => ends_iff hc s (i := i) (j := p) st hi hp
  refine List.find?_eq_none.2 fun q hq hm => ?_
  have hb := (mem_dnL _).1 hq
  exact no q ((hE q (by omega)).1 hm)
end Go.Proofs.YthcbjbkheodejaaGreat
namespace Go.Proofs.YthcbjbkheodejaaGreat
open Go Go.RowKit Sl
set_option maxRecDepth 100000
set_option maxHeartbeats 8000000
attribute [local irreducible] ES EL PX wps
abbrev At (s : List UInt8) (S : BS) (k : Nat) : Prop := k < s.length ∧ hasS S (s.getD k 0).toNat = true
theorem hit_byte {s : List UInt8} {S : BS} {i j : Nat} : Hit s (.byte S) i j ↔ At s S i ∧ j = i + 1 := by rw [Hit]
theorem iter_byte {s : List UInt8} {S : BS} : ∀ {c i j : Nat}, Iter (Hit s (.byte S)) c i j ↔ j = i + c ∧ ∀ k, i ≤ k → k < i + c → At s S k
  | 0, i, j => ⟨fun h => ⟨by cases (show i = j from h); rfl, fun k h1 h2 => by omega⟩, fun ⟨h, _⟩ => by show i = j; omega⟩
  | c + 1, i, j => by
    constructor
    · rintro ⟨m, h1, h2⟩
      obtain ⟨h3, rfl⟩ := hit_byte.1 h1
      obtain ⟨h4, h5⟩ := iter_byte.1 h2
      refine ⟨by omega, fun k h6 h7 => ?_⟩
      by_cases h : k = i
      · subst h; exact h3
      · exact h5 k (by omega) (by omega)
    · rintro ⟨h1, h2⟩
      exact ⟨i + 1, hit_byte.2 ⟨h2 i (Nat.le_refl _) (by omega), rfl⟩, iter_byte.2 ⟨by omega, fun k h3 h4 => h2 k (by omega) (by omega)⟩⟩
theorem least0 (k : RE) : leastM 0 k = 0 := by unfold leastM; split <;> simp
theorem repN_inf {k : RE} (h : k.thin = false) (c : Nat) : RepN 0 (-1) k c := ⟨by rw [least0]; omega, by rw [if_neg (by simp [h])]; exact .inl (by decide)⟩
theorem left_inf (k : RE) (t : Nat) : leftM 0 (-1) k t = .rep 0 (-1) k := by
  unfold leftM leftLo
  rw [least0]
  simp
theorem hit_star {s : List UInt8} {S : BS} {i j : Nat} : Hit s (.rep 0 (-1) (.byte S)) i j ↔ i ≤ j ∧ ∀ k, i ≤ k → k < j → At s S k := by
  rw [Hit]
  constructor
  · rintro ⟨c, _, h⟩
    obtain ⟨h1, h2⟩ := iter_byte.1 h
    exact ⟨by omega, fun k h3 h4 => h2 k h3 (by omega)⟩
  · rintro ⟨h1, h2⟩
    exact ⟨j - i, repN_inf (by simp [RE.thin]) _, iter_byte.2 ⟨by omega, fun k h3 h4 => h2 k h3 (by omega)⟩⟩
theorem hitL_one {s : List UInt8} {r : RE} {i j : Nat} : HitL s [r] i j ↔ Hit s r i j := by
  rw [HitL]
  constructor
  · rintro ⟨m, h1, h2⟩
    rw [HitL] at h2
    subst h2; exact h1
  · exact fun h => ⟨j, h, by rw [HitL]⟩
theorem hitL_two {s : List UInt8} {r : RE} {ks : List RE} {i j : Nat} : HitL s (r :: ks) i j ↔ ∃ m, Hit s r i m ∧ HitL s ks m j := by rw [HitL]
theorem hit_group {s : List UInt8} {n : Nat} {r : RE} {i j : Nat} : Hit s (.group n (.cat [r])) i j ↔ Hit s r i j := by rw [Hit, Hit, hitL_one]
theorem hit_cat {s : List UInt8} {ks : List RE} {i j : Nat} : Hit s (.cat ks) i j ↔ HitL s ks i j := by rw [Hit]
theorem hit_rep {s : List UInt8} {lo : Nat} {hi : Int} {k : RE} {i j : Nat} : Hit s (.rep lo hi k) i j ↔ ∃ c, RepN lo hi k c ∧ Iter (Hit s k) c i j := by rw [Hit]
def sA : BS := ⟨0, 8589934592, 0, 0⟩
def sB : BS := ⟨0, 17179869184, 0, 0⟩
end Go.Proofs.YthcbjbkheodejaaGreat
namespace Go.Proofs.YthcbjbkheodejaaGreat
open Go Go.RowKit Sl
set_option maxRecDepth 100000
set_option maxHeartbeats 8000000
attribute [local irreducible] ES EL PX wps
def kbL (l : List Ed) : Nat := (l.filter fun e => decide (e.kind = 1)).length
def kbE (es : List (List Ed)) : Nat := (es.map kbL).sum
theorem sum_erase (g : Nat × Nat → Nat) (x : Nat × Nat) : ∀ l : List (Nat × Nat), x ∈ l → (l.map g).sum = g x + ((l.erase x).map g).sum
  | [], h => by cases h
  | y :: l, h => by
    by_cases e : y = x
    · subst e; simp
    · have hm : x ∈ l := by
        rcases List.mem_cons.1 h with h | h
        · exact absurd h.symm e
        · exact h
      have := sum_erase g x l hm
      rw [List.erase_cons_tail (by simpa using e)]
      simp only [List.map_cons, List.sum_cons]
      omega
theorem sum_sub (g : Nat × Nat → Nat) : ∀ (l l' : List (Nat × Nat)), l.Nodup → (∀ x ∈ l, x ∈ l') → (l.map g).sum ≤ (l'.map g).sum
  | [], _, _, _ => Nat.zero_le _
  | x :: l, l', hn, hs => by
    rw [List.nodup_cons] at hn
    rw [sum_erase g x l' (hs x (by simp)), List.map_cons, List.sum_cons]
    refine Nat.add_le_add_left (sum_sub g l (l'.erase x) hn.2 fun y hy => ?_) _
    exact (List.mem_erase_of_ne (by rintro rfl; exact hn.1 hy)).2 (hs y (by simp [hy]))
def pairsN (n : Nat) : Nat → List (Nat × Nat)
  | 0 => []
  | N + 1 => pairsN n N ++ (List.range n).map fun a => (N, a)
theorem mem_pairs {n : Nat} : ∀ {N : Nat} {x : Nat × Nat}, x.1 < N → x.2 < n → x ∈ pairsN n N
  | N + 1, x, h1, h2 => by
    rw [pairsN, List.mem_append]
    by_cases e : x.1 = N
    · exact .inr (List.mem_map.2 ⟨x.2, List.mem_range.2 h2, Prod.ext e.symm rfl⟩)
    · exact .inl (mem_pairs (by omega) h2)
theorem sum_const (c : Nat) : ∀ n : Nat, ((List.range n).map fun _ => c).sum = n * c
  | 0 => by simp
  | n + 1 => by rw [List.range_succ, List.map_append, List.sum_append_nat, sum_const c n, Nat.succ_mul]; simp
theorem sum_pairs (f : Nat → Nat) (n : Nat) : ∀ N, ((pairsN n N).map fun x => f x.1).sum = n * ((List.range N).map f).sum
  | 0 => by simp [pairsN]
  | N + 1 => by
    rw [pairsN, List.map_append, List.sum_append_nat, sum_pairs f n N, List.map_map, List.range_succ, List.map_append, List.sum_append_nat, Nat.mul_add]
    have : ((List.range n).map ((fun x : Nat × Nat => f x.1) ∘ fun a => (N, a))).sum = n * f N := sum_const (f N) n
    rw [this]
    simp
theorem range_get (f : List Ed → Nat) (es : List (List Ed)) : (List.range es.length).map (fun q => f (es.getD q [])) = es.map f := by
  apply List.ext_getElem
  · simp
  · intro i h1 h2
    simp only [List.length_map] at h2
    simp [List.getD_eq_getElem?_getD, List.getElem?_eq_getElem h2]
theorem cnt_kb (n : Nat) (fwd : Bool) (a : Nat) : ∀ l : List Ed, (l.map (cntM n fwd · a)).sum ≤ kbL l
  | [] => Nat.le_refl _
  | e :: l => by
    have := cnt_kb n fwd a l
    unfold kbL at *
    rw [List.map_cons, List.sum_cons, List.filter_cons]
    by_cases h : e.kind = 1
    · have := cnt_le n fwd e a
      rw [if_pos (by simpa using h), List.length_cons]
      omega
    · have h0 : cntM n fwd e a = 0 := by unfold cntM; rw [if_neg (fun hh => h hh.1)]
      rw [if_neg (by simpa using h), h0]
      omega
theorem flood_le {es : List (List Ed)} (hes : EdsOk es) (s : List UInt8) {x0 : Nat × Nat} (h1 : x0.1 < es.length) (h2 : x0.2 ≤ s.length) (goal : Nat) (fwd : Bool) (st : Nat) (hk : kbE es ≤ 2) : (floodM es s x0 goal fwd st).steps ≤ st + 2 * (s.length + 1) := by
  obtain ⟨done, hd⟩ := flood_spec hes s h1 h2 goal fwd st
  rw [hd.steps]
  have a1 : (done.map (cntAt es s.length fwd)).sum ≤ ((pairsN (s.length + 1) es.length).map (cntAt es s.length fwd)).sum := sum_sub _ _ _ hd.nodup (fun x hx => mem_pairs (hd.dok x hx).1 (by have := (hd.dok x hx).2; omega))
  have a2 : ∀ l : List (Nat × Nat), (l.map (cntAt es s.length fwd)).sum ≤ (l.map fun x => kbL (es.getD x.1 [])).sum := fun l => by
    induction l with
    | nil => exact Nat.le_refl _
    | cons x l ih =>
      have := cnt_kb s.length fwd x.2 (es.getD x.1 [])
      simp only [List.map_cons, List.sum_cons]
      have e : cntAt es s.length fwd x = ((es.getD x.1 []).map (cntM s.length fwd · x.2)).sum := rfl
      omega
  have a3 := a2 (pairsN (s.length + 1) es.length)
  rw [sum_pairs (fun q => kbL (es.getD q [])) (s.length + 1) es.length, range_get kbL es] at a3
  have a4 : (s.length + 1) * (es.map kbL).sum ≤ (s.length + 1) * 2 := Nat.mul_le_mul_left _ hk
  omega
theorem flood_ge {es : List (List Ed)} (hes : EdsOk es) (s : List UInt8) {x0 : Nat × Nat} (h1 : x0.1 < es.length) (h2 : x0.2 ≤ s.length) (goal : Nat) (fwd : Bool) (st : Nat) : st + cntAt es s.length fwd x0 ≤ (floodM es s x0 goal fwd st).steps := by
  obtain ⟨done, hd⟩ := flood_spec hes s h1 h2 goal fwd st
  rw [hd.steps, sum_erase _ x0 done ((hd.all x0).2 .here)]
  omega
theorem cut_c {s : List UInt8} (hs : s.length ≤ 1024) {hd tl : List RE} {i e j st : Nat} (h : First s hd tl i e j) (hj : j ≤ s.length) (hst : st ≤ 576460752303423488) (k1 : kbE (makeM hd).1.out ≤ 2) (k2 : kbE (makeM tl).1.back ≤ 2) :
    ∃ st', cutS s hd tl i j st = some (e, st') ∧ st + cntAt (makeM hd).1.out s.length true (0, i) + cntAt (makeM tl).1.back s.length false ((makeM tl).2, j) ≤ st' ∧ st' ≤ st + 4 * (s.length + 1) := by
  have hie := h.ie
  have hej := h.ej
  obtain ⟨hr1, hl1⟩ := make_room hd h.ch
  obtain ⟨hr2, hl2⟩ := make_room tl h.ct
  obtain ⟨st', e1, _, _⟩ := cut_first hs h hj hst
  have e2 : st' = (splS s hd tl i j st).steps := by
    unfold cutS at e1
    split at e1
    · split at e1
      · cases e1
      · cases e1; rfl
    · cases e1
  have f1 := flood_le hr1.eo s (x0 := (0, i)) (by show 0 < (makeM hd).1.out.length; omega) (show i ≤ s.length by omega) (makeM hd).2 true st k1
  have f2 := flood_ge hr1.eo s (x0 := (0, i)) (by show 0 < (makeM hd).1.out.length; omega) (show i ≤ s.length by omega) (makeM hd).2 true st
  have g1 := flood_le hr2.eb s (x0 := ((makeM tl).2, j)) (by rw [hr2.same]; exact hl2) hj 0 false (splE s hd i st).steps k2
  have g2 := flood_ge hr2.eb s (x0 := ((makeM tl).2, j)) (by rw [hr2.same]; exact hl2) hj 0 false (splE s hd i st).steps
  refine ⟨st', e1, ?_, ?_⟩
  · rw [e2]
    refine Nat.le_trans ?_ g2
    exact Nat.add_le_add_right f2 _
  · rw [e2]
    refine Nat.le_trans g1 ?_
    have : (splE s hd i st).steps ≤ st + 2 * (s.length + 1) := f1
    omega
def tw : Nat → Nat → RE
  | 0, _ => .rep 0 (-1) (.byte sA)
  | l + 1, g => .rep 0 (-1) (.group g (.cat [tw l (g + 1)]))
def grpT (l g : Nat) : RE := .group g (.cat [tw l (g + 1)])
def pat (d : Nat) : RE := .cat [tw d 1, .byte sB]
def textD : Nat → List UInt8
  | 0 => [97, 42]
  | d + 1 => [92, 40] ++ textD d ++ [92, 41, 42]
theorem textD_len : ∀ d, (textD d).length = 5 * d + 2
  | 0 => rfl
  | d + 1 => by rw [textD, List.length_append, List.length_append, textD_len d]; simp; omega
def kbOk (ks : List RE) : Bool := decide (kbE (makeM ks).1.out ≤ 2) && decide (kbE (makeM ks).1.back ≤ 2) && decide (costL ks + 1 ≤ 131072)
theorem kb_of {ks : List RE} (h : kbOk ks = true) : kbE (makeM ks).1.out ≤ 2 ∧ kbE (makeM ks).1.back ≤ 2 ∧ costL ks + 1 ≤ 131072 := by
  unfold kbOk at h
  simp only [Bool.and_eq_true, decide_eq_true_eq] at h
  exact ⟨h.1.1, h.1.2, h.2⟩
theorem kb_all : ((List.range 9).all fun l => (List.range 10).all fun g => kbOk [tw l g] && kbOk [grpT l g]) = true := by decide +kernel
theorem kb_pat : ((List.range 9).all fun d => kbOk [pat d] && decide ((measM (pat d)).grp = (d : Int)) && !(measM (pat d)).back) = true := by decide +kernel
theorem kb_A : kbOk [.byte sA] = true := by decide +kernel
theorem kb_B : kbOk [.byte sB] = true := by decide +kernel
theorem kb_tw {l g : Nat} (hl : l < 9) (hg : g < 10) : kbOk [tw l g] = true ∧ kbOk [grpT l g] = true := by
  have h := List.all_eq_true.1 (List.all_eq_true.1 kb_all l (List.mem_range.2 hl)) g (List.mem_range.2 hg)
  rw [Bool.and_eq_true] at h
  exact h
theorem pat_ok {d : Nat} (hd : d < 9) : kbOk [pat d] = true ∧ (measM (pat d)).grp = (d : Int) ∧ (measM (pat d)).back = false := by
  have h := List.all_eq_true.1 kb_pat d (List.mem_range.2 hd)
  simp only [Bool.and_eq_true, decide_eq_true_eq, Bool.not_eq_true'] at h
  exact ⟨h.1.1, h.1.2, h.2⟩
theorem parse_d : ∀ d, d < 9 → parseM (textD d ++ [98]) = ⟨pat d, 0, 0⟩
  | 0, _ => by kernel_rfl
  | 1, _ => by kernel_rfl
  | 2, _ => by kernel_rfl
  | 3, _ => by kernel_rfl
  | 4, _ => by kernel_rfl
  | 5, _ => by kernel_rfl
  | 6, _ => by kernel_rfl
  | 7, _ => by kernel_rfl
  | 8, _ => by kernel_rfl
  | d + 9, h => by omega
theorem hA97 : hasS sA 97 = true := by decide +kernel
theorem hA98 : hasS sA 98 = false := by decide +kernel
theorem hB98 : hasS sB 98 = true := by decide +kernel
theorem hB97 : hasS sB 97 = false := by decide +kernel
theorem tw_thin : ∀ l g, (tw l g).thin = false
  | 0, g => by simp [tw, RE.thin]
  | l + 1, g => by simp [tw, RE.thin, thinL, tw_thin l (g + 1)]
theorem grp_thin (l g : Nat) : (grpT l g).thin = false := by simp [grpT, RE.thin, thinL, tw_thin]
theorem tw_succ (l g : Nat) : tw (l + 1) g = .rep 0 (-1) (grpT l g) := rfl
theorem hit_tw {s : List UInt8} : ∀ (l g i j : Nat), Hit s (tw l g) i j ↔ i ≤ j ∧ ∀ k, i ≤ k → k < j → At s sA k
  | 0, g, i, j => hit_star
  | l + 1, g, i, j => by
    rw [tw_succ, hit_rep]
    constructor
    · rintro ⟨c, _, h⟩
      have hg : ∀ i j, Hit s (grpT l g) i j ↔ i ≤ j ∧ ∀ k, i ≤ k → k < j → At s sA k := fun i j => hit_group.trans (hit_tw l (g + 1) i j)
      have key : ∀ c i, Iter (Hit s (grpT l g)) c i j → i ≤ j ∧ ∀ k, i ≤ k → k < j → At s sA k := by
        intro c
        induction c with
        | zero => intro i h; have h : i = j := h; exact ⟨by omega, fun k h1 h2 => by omega⟩
        | succ c ih =>
          rintro i ⟨m, h1, h2⟩
          obtain ⟨a1, a2⟩ := (hg i m).1 h1
          obtain ⟨b1, b2⟩ := ih m h2
          refine ⟨by omega, fun k h3 h4 => ?_⟩
          by_cases hk : k < m
          · exact a2 k h3 hk
          · exact b2 k (by omega) h4
      exact key c i h
    · intro h
      exact ⟨1, repN_inf (grp_thin l g) 1, j, hit_group.2 ((hit_tw l (g + 1) i j).2 h), rfl⟩
theorem cnt_A {s : List UInt8} {i : Nat} (hi : i < s.length) : 1 ≤ cntAt (makeM [.byte sA]).1.out s.length true (0, i) := by
  have h : (makeM [.byte sA]).1.out.getD 0 [] = [⟨1, sA, 1⟩] := by kernel_rfl
  unfold cntAt
  rw [h]
  simp [cntM, inB, hi]
theorem cnt_B {s : List UInt8} {j : Nat} (hj : 0 < j) (h2 : j ≤ s.length) : 1 ≤ cntAt (makeM [.byte sB]).1.back s.length false ((makeM [.byte sB]).2, j) := by
  have h : (makeM [.byte sB]).1.back.getD (makeM [.byte sB]).2 [] = [⟨1, sB, 0⟩] := by kernel_rfl
  unfold cntAt
  have hi : inB s.length false j = true := by
    unfold inB
    rw [if_neg (by simp), decide_eq_true_eq]
    omega
  rw [h]
  simp [cntM, hi]
theorem star_run {s : List UInt8} (hs : s.length ≤ 1024) {m : Nat} (hm : m ≤ s.length) (hat : ∀ x, x < m → At s sA x) : ∀ (k i t F st : Nat) (z : List Spn), i + k = m → t + k ≤ 1000 → k + 2 ≤ F → st + k * (4 * (s.length + 1)) ≤ 576460752303423488 →
    ∃ st', walkM s F (.rep 0 (-1) (.byte sA) t) i m ⟨z, st⟩ = some ⟨z, st'⟩ ∧ st + k ≤ st' ∧ st' ≤ st + k * (4 * (s.length + 1))
  | 0, i, t, F, st, z, h, _, hF, _ => by
    obtain ⟨F, rfl⟩ : ∃ F', F = F' + 1 := ⟨F - 1, by omega⟩
    have h : i = m := h
    exact ⟨st, by rw [walkM, if_pos h, if_neg (by rw [least0]; omega)], by omega, by omega⟩
  | k + 1, i, t, F, st, z, h, ht, hF, hst => by
    obtain ⟨F, rfl⟩ : ∃ F', F = F' + 1 := ⟨F - 1, by omega⟩
    rw [Nat.succ_mul] at hst ⊢
    have hf : First s [.byte sA] [.rep 0 (-1) (.byte sA)] i (i + 1) m :=
      ⟨(kb_of kb_A).2.2, (kb_of (kb_tw (l := 0) (g := 0) (by omega) (by omega)).1).2.2, by omega, by omega, hitL_one.2 (hit_byte.2 ⟨hat i (by omega), rfl⟩), hitL_one.2 (hit_star.2 ⟨by omega, fun x _ h2 => hat x h2⟩), fun p h1 _ h3 => by
        have := (hit_byte.1 (hitL_one.1 h3.1)).2
        omega⟩
    obtain ⟨st1, e1, e2, e3⟩ := cut_c hs hf hm (st := st) (by omega) (kb_of kb_A).1 (kb_of (kb_tw (l := 0) (g := 0) (by omega) (by omega)).1).2.1
    have hc := cnt_A (s := s) (i := i) (by omega)
    obtain ⟨st2, e4, e5, e6⟩ := star_run hs hm hat k (i + 1) (t + 1) F st1 z (by omega) (by omega) (by omega) (by omega)
    have hb : walkM s F (.one (.byte sA)) i (i + 1) ⟨z, st1⟩ = some ⟨z, st1⟩ := by
      obtain ⟨F, rfl⟩ : ∃ F', F = F' + 1 := ⟨F - 1, by omega⟩
      simp [walkM]
    refine ⟨st2, ?_, by omega, by omega⟩
    rw [walkM, if_neg (by omega), if_neg (by omega), left_inf]
    simp only [e1, hb, e4]
theorem tw_run {s : List UInt8} (hs : s.length ≤ 1024) {m : Nat} (hm : m ≤ s.length) (hm9 : m ≤ 900) (hat : ∀ x, x < m → At s sA x) : ∀ (l g F st : Nat) (z : List Spn), l < 9 → 1 ≤ g → g + l ≤ 10 → g + l ≤ z.length → 5 * l + m + 4 ≤ F → st + (l + m) * (4 * (s.length + 1)) ≤ 576460752303423488 →
    ∃ st' z', walkM s F (.one (tw l g)) 0 m ⟨z, st⟩ = some ⟨z', st'⟩ ∧ z'.length = z.length ∧ z'[0]? = z[0]? ∧ st + m ≤ st' ∧ st' ≤ st + (l + m) * (4 * (s.length + 1))
  | 0, g, F, st, z, _, _, _, _, hF, hst => by
    obtain ⟨F, rfl⟩ : ∃ F', F = F' + 1 := ⟨F - 1, by omega⟩
    rw [Nat.zero_add] at hst ⊢
    obtain ⟨st', e1, e2, e3⟩ := star_run hs hm hat m 0 0 F st z (by omega) (by omega) (by omega) hst
    exact ⟨st', z, by rw [tw, walkM]; exact e1, rfl, rfl, e2, e3⟩
  | l + 1, g, F, st, z, hl, hg, hgl, hz, hF, hst => by
    obtain ⟨F, rfl⟩ : ∃ F', F = F' + 2 := ⟨F - 2, by omega⟩
    have hmul : (l + 1 + m) * (4 * (s.length + 1)) = (l + m) * (4 * (s.length + 1)) + 4 * (s.length + 1) := by rw [show l + 1 + m = l + m + 1 by omega, Nat.succ_mul]
    rw [hmul] at hst ⊢
    by_cases h0 : m = 0
    · subst h0
      exact ⟨st, z, by rw [tw_succ, walkM, walkM, if_pos rfl, if_neg (by rw [least0]; omega)], rfl, rfl, by omega, by omega⟩
    have hk := kb_tw (l := l) (g := g) (by omega) (by omega)
    have hk2 := kb_tw (l := l + 1) (g := g) (by omega) (by omega)
    have hall : ∀ k, 0 ≤ k → k < m → At s sA k := fun k _ h => hat k h
    have hf : First s [grpT l g] [tw (l + 1) g] 0 m m :=
      ⟨(kb_of hk.2).2.2, (kb_of hk2.1).2.2, Nat.zero_le _, Nat.le_refl _, hitL_one.2 (hit_group.2 ((hit_tw l (g + 1) 0 m).2 ⟨Nat.zero_le _, hall⟩)), hitL_one.2 ((hit_tw (l + 1) g m m).2 ⟨Nat.le_refl _, fun k h1 h2 => by omega⟩), fun p h1 h2 _ => by omega⟩
    obtain ⟨st1, e1, e2, e3⟩ := cut_c hs hf hm (st := st) (by omega) (kb_of hk.2).1 (kb_of hk2.1).2.1
    obtain ⟨F, rfl⟩ : ∃ F', F = F' + 3 := ⟨F - 3, by omega⟩
    obtain ⟨st2, z2, e4, e5, e6, e7, e8⟩ := tw_run hs hm hm9 hat l (g + 1) F st1 (z.set g (((0 : Nat) : Int), (m : Int))) (by omega) (by omega) (by omega) (by rw [List.length_set]; omega) (by omega) (by omega)
    refine ⟨st2, z2, ?_, by rw [e5, List.length_set], by rw [e6, List.getElem?_set_ne (by omega)], by omega, by omega⟩
    have hgw : walkM s (F + 3) (.one (grpT l g)) 0 m ⟨z, st1⟩ = some ⟨z2, st2⟩ := by
      rw [grpT, walkM, if_pos (show g < z.length by omega), walkM, walkM]
      exact e4
    have hend : walkM s (F + 3) (.rep 0 (-1) (grpT l g) 1) m m ⟨z2, st2⟩ = some ⟨z2, st2⟩ := by rw [walkM, if_pos rfl, if_neg (by rw [least0]; omega)]
    rw [tw_succ, walkM, walkM, if_neg (by omega), if_neg (by omega), left_inf, ← tw_succ]
    simp only [e1, hgw, hend]
theorem hit_pat {s : List UInt8} {d a b : Nat} : HitL s [pat d] a b ↔ ∃ e, (a ≤ e ∧ ∀ k, a ≤ k → k < e → At s sA k) ∧ At s sB e ∧ b = e + 1 := by
  rw [hitL_one, pat, hit_cat, hitL_two]
  constructor
  · rintro ⟨e, h1, h2⟩
    exact ⟨e, (hit_tw d 1 a e).1 h1, hit_byte.1 (hitL_one.1 h2)⟩
  · rintro ⟨e, h1, h2⟩
    exact ⟨e, (hit_tw d 1 a e).2 h1, hitL_one.2 (hit_byte.2 h2)⟩
theorem find_no_c {s : List UInt8} (hs : s.length ≤ 1024) {r : RE} (hk : kbOk [r] = true) : ∀ (n i st : Nat), n + i = s.length + 1 → (∀ a, i ≤ a → a ≤ s.length → ∀ b, ¬ HitL s [r] a b) → st + n * (2 * (s.length + 1)) ≤ 576460752303423488 → ∃ st', findM s (makeM [r]) n i st = some (none, st') ∧ st' ≤ st + n * (2 * (s.length + 1))
  | 0, i, st, hn, h, _ => ⟨st, rfl, by omega⟩
  | n + 1, i, st, hn, h, hst => by
    obtain ⟨k1, _, hc⟩ := kb_of hk
    obtain ⟨hr, hlt⟩ := make_room [r] hc
    rw [Nat.succ_mul] at hst ⊢
    have f1 : (endsM (makeM [r]) s i st).steps ≤ st + 2 * (s.length + 1) := flood_le hr.eo s (x0 := (0, i)) (by show 0 < (makeM [r]).1.out.length; omega) (show i ≤ s.length by omega) (makeM [r]).2 true st k1
    rw [findM, if_pos (by omega), last_none hc (by omega) (h i (Nat.le_refl _) (by omega))]
    obtain ⟨st', e1, e2⟩ := find_no_c hs hk n (i + 1) (endsM (makeM [r]) s i st).steps (by omega) (fun a h1 h2 => h a (by omega) h2) (by omega)
    exact ⟨st', e1, by omega⟩
theorem runs_no (d m : Nat) (hd : d < 9) (hm : m ≤ 119) : ∃ r, setM 0 (textD d ++ [98]) (List.replicate m 97) 0 = some r ∧ r.ok = false ∧ r.e = 0 ∧ r.spans = [] ∧ r.steps ≤ 36 * (5 * d + 4) * ((m + 1) * (m + 1)) := by
  obtain ⟨s, hs⟩ : ∃ s, s = List.replicate m (97 : UInt8) := ⟨_, rfl⟩
  have hl : s.length = m := by rw [hs]; simp
  obtain ⟨p1, p2, p3⟩ := pat_ok hd
  have hg : ∀ x, x < m → s.getD x 0 = 97 := fun x h => by rw [hs, List.getD_eq_getElem?_getD, List.getElem?_replicate, if_pos h]; rfl
  obtain ⟨st1, e1, e2⟩ := find_no_c (s := s) (by omega) p1 (s.length + 1 - 0) 0 0 (by omega) (fun a _ _ b h => by
    obtain ⟨e, _, ⟨h1, h2⟩, _⟩ := hit_pat.1 h
    rw [hg e (by omega)] at h2
    exact absurd h2 (by rw [show (97 : UInt8).toNat = 97 from rfl, hB97]; simp)) (by
      have : (s.length + 1 - 0) * (2 * (s.length + 1)) ≤ 120 * (2 * 120) := Nat.mul_le_mul (by omega) (by omega)
      omega)
  rw [← hs]
  unfold setM
  rw [parse_d d hd, if_neg (fun h => h rfl), if_neg (by rw [p3]; simp), if_neg (by omega), if_neg (by omega), if_neg (by rw [p2]; omega), p2]
  unfold setGo
  rw [if_pos (kb_of p1).2.2]
  simp only [Int.toNat_natCast, Int.toNat_zero, e1]
  refine ⟨_, rfl, rfl, rfl, rfl, ?_⟩
  show st1 ≤ _
  rw [hl, Nat.zero_add, Nat.sub_zero, Nat.mul_left_comm] at e2
  exact Nat.le_trans e2 (Nat.mul_le_mul_right _ (by omega))
theorem runs_yes (d m : Nat) (hd : d < 9) (hm : m ≤ 119) : ∃ F r, setM F (textD d ++ [98]) (List.replicate m 97 ++ [98]) 0 = some r ∧ r.ok = true ∧ r.e = 0 ∧ r.spans.length = d + 1 ∧ r.spans[0]? = some (0, ((m + 1 : Nat) : Int)) ∧ m < r.steps ∧ r.steps ≤ 36 * (5 * d + 4) * ((m + 2) * (m + 2)) := by
  obtain ⟨s, hs⟩ : ∃ s, s = List.replicate m (97 : UInt8) ++ [98] := ⟨_, rfl⟩
  have hl : s.length = m + 1 := by rw [hs]; simp
  obtain ⟨p1, p2, p3⟩ := pat_ok hd
  obtain ⟨k1, _, hc⟩ := kb_of p1
  have atA : ∀ x, x < m → At s sA x := fun x h => ⟨by omega, by
    rw [hs, List.getD_eq_getElem?_getD, List.getElem?_append_left (by simpa using h), List.getElem?_replicate, if_pos h]; exact hA97⟩
  have g98 : s.getD m 0 = 98 := by rw [hs, List.getD_eq_getElem?_getD, List.getElem?_append_right (by simp)]; simp
  have atB : At s sB m := ⟨by omega, by rw [g98]; exact hB98⟩
  have hit : HitL s [pat d] 0 (m + 1) := hit_pat.2 ⟨m, ⟨Nat.zero_le _, fun k _ h => atA k h⟩, atB, rfl⟩
  obtain ⟨hr, hlt⟩ := make_room [pat d] hc
  obtain ⟨st0, hst0⟩ : ∃ st0, st0 = (endsM (makeM [pat d]) s 0 0).steps := ⟨_, rfl⟩
  have f0 : (endsM (makeM [pat d]) s 0 0).steps ≤ 0 + 2 * (s.length + 1) := flood_le hr.eo s (x0 := (0, 0)) (by show 0 < (makeM [pat d]).1.out.length; omega) (Nat.zero_le _) (makeM [pat d]).2 true 0 k1
  rw [← hst0, hl] at f0
  have hfind : findM s (makeM [pat d]) (s.length + 1 - 0) 0 0 = some (some (0, m + 1), st0) := by
    rw [Nat.sub_zero, findM, if_pos (by omega), last_some hc (Nat.zero_le _) (by omega) hit (fun b' h1 h2 => by omega), hst0]
  have kt := kb_of (kb_tw (l := d) (g := 1) hd (by omega)).1
  have kB := kb_of kb_B
  have noA : ¬ At s sA m := fun ⟨_, h2⟩ => by
    rw [g98] at h2
    exact absurd h2 (by rw [show (98 : UInt8).toNat = 98 from rfl, hA98]; simp)
  have hf : First s [tw d 1] [.byte sB] 0 m (m + 1) :=
    ⟨kt.2.2, kB.2.2, Nat.zero_le _, by omega, hitL_one.2 ((hit_tw d 1 0 m).2 ⟨Nat.zero_le _, fun k _ h => atA k h⟩), hitL_one.2 (hit_byte.2 ⟨atB, rfl⟩), fun p h1 _ h3 => noA (((hit_tw d 1 0 p).1 (hitL_one.1 h3.1)).2 m (Nat.zero_le _) h1)⟩
  obtain ⟨st1, e1, e2, e3⟩ := cut_c (s := s) (by omega) hf (by omega) (st := st0) (by omega) kt.1 kB.2.1
  have hcB := cnt_B (s := s) (j := m + 1) (by omega) (by omega)
  rw [hl] at e3
  have hbig : (d + m) * (4 * (s.length + 1)) ≤ 127 * (4 * 121) := Nat.mul_le_mul (by omega) (by omega)
  obtain ⟨st2, z2, e4, e5, e6, e7, e8⟩ := tw_run (s := s) (by omega) (m := m) (by omega) (by omega) atA d 1 (5 * d + m + 4) st1 ((List.replicate (d + 1) ((-1, -1) : Spn)).set 0 (((0 : Nat) : Int), ((m + 1 : Nat) : Int))) hd (by omega) (by omega) (by simp; omega) (by omega) (by omega)
  rw [hl] at e8
  have hw : walkM s (5 * d + m + 4 + 2) (.one (pat d)) 0 (m + 1) ⟨(List.replicate (d + 1) ((-1, -1) : Spn)).set 0 (((0 : Nat) : Int), ((m + 1 : Nat) : Int)), st0⟩ = some ⟨z2, st2⟩ := by
    have hb : walkM s (5 * d + m + 4) (.cat [.byte sB]) m (m + 1) ⟨z2, st2⟩ = some ⟨z2, st2⟩ := by
      rw [show 5 * d + m + 4 = 5 * d + m + 2 + 2 by omega, walkM]
      simp [walkM]
    rw [pat, walkM, walkM]
    simp only [e1, e4, hb]
  rw [← hs]
  refine ⟨5 * d + m + 4 + 2, ⟨z2, true, st2, 0⟩, ?_, rfl, rfl, by rw [e5]; simp, by rw [e6]; simp, by show m < st2; omega, ?_⟩
  · unfold setM
    rw [parse_d d hd, if_neg (fun h => h rfl), if_neg (by rw [p3]; simp), if_neg (by omega), if_neg (by omega), if_neg (by rw [p2]; omega), p2]
    unfold setGo
    rw [if_pos hc]
    simp only [Int.toNat_natCast, Int.toNat_zero, hfind, hw]
  · show st2 ≤ _
    have x1 : 36 * (5 * d + 4) * 2 ≤ 36 * (5 * d + 4) * (m + 2) := Nat.mul_le_mul_left _ (by omega)
    have x2 : 36 * 4 * (m + 2) ≤ 36 * (5 * d + 4) * (m + 2) := Nat.mul_le_mul_right _ (by omega)
    have x3 : (6 + 4 * (d + m)) * (m + 2) ≤ (36 * (5 * d + 4) * (m + 2)) * (m + 2) := Nat.mul_le_mul_right _ (by omega)
    have x4 : (6 + 4 * (d + m)) * (m + 2) = 6 * (m + 2) + (d + m) * (4 * (m + 2)) := by rw [Nat.add_mul, Nat.mul_comm 4 (d + m), Nat.mul_assoc]
    rw [← Nat.mul_assoc]
    have x5 : (d + m) * (4 * (m + 1 + 1)) = (d + m) * (4 * (m + 2)) := rfl
    omega
end Go.Proofs.YthcbjbkheodejaaGreat
namespace Go.Proofs.YthcbjbkheodejaaGreat.Sl
open Go Go.RowKit Go.ChangeShapes Go.WideShapes Go.ChangeAt
def rowedB (P : Program) (ts : List TypeId) : Bool := ts.all fun t => P.readableRec t && decide (t < P.types.size)
theorem trodAll_below {H : Type} {enc : TypeId × Value → H} {P : Program} (hl : laidOutB P = true) {W W' : World} (hb : Below W.heap.size W W') :
    ∀ {ts : List TypeId} {vs : List Value} {ds : List (DataW H)} {ps : List MemPlace}, rowedB P ts = true → (∀ x ∈ ps, x.block < W.heap.size) → DataW.TrodAll enc P W 0 (fun _ => true) true ts vs ds ps → DataW.TrodAll enc P W' 0 (fun b => decide (b < W.heap.size)) true ts vs ds ps
  | [], [], [], _, _, _, h => h
  | t :: ts, v :: vs, d :: ds, ps, hr, hlt, h => by
    obtain ⟨p, q, h1, h2, rfl⟩ := h
    simp only [rowedB, List.all_cons, Bool.and_eq_true, decide_eq_true_eq] at hr
    exact ⟨p, q, Below.trod hl hr.1.1 hr.1.2 h1 hb (fun x hx => hlt x (by simp [hx])), trodAll_below hl hb (by simpa [rowedB] using hr.2) (fun x hx => hlt x (by simp [hx])) h2, rfl⟩
theorem law_true {H : Type} {enc : TypeId × Value → H} {P : Program} (hl : laidOutB P = true) {f : Func} {tb : TypeId} {s : ChangeSpec} {W W' : World} {args : Array Value} {ds gs : List (DataW H)} {before : List MemPlace}
    (hres : f.resultTypes = #[tb]) (hu : P.underlying tb = some .bool) (hts : rowedB P f.params.toList = true) (hv : varsRowed P s.vars = true) (apart : Bool)
    (hR : (s.fn H (ds ++ gs)).results = [.lit (.bool true)]) (hA : (s.fn H (ds ++ gs)).args = ds) (hV : (s.fn H (ds ++ gs)).vars = gs)
    (hW : DataW.Whole enc P f.params.toList s.vars apart W args.toList ds gs before) (hb : Below W.heap.size W W') : s.post enc P f apart true false false W args (.bool true) W' := by
  have hlt := hW.lt
  have hW' := hW
  obtain ⟨p, q, h1, h2, rfl, h4, h5⟩ := hW
  refine ⟨ds, gs, p ++ q, [], p, q, hW', ?_, ?_, ?_, hb.frame _, fun h => by cases h⟩
  · rw [hres, hR]
    exact trodAll_mk1 (shut_bool hu true)
  · rw [hA]
    exact trodAll_below hl hb hts (fun x hx => hlt x (by simp [hx])) h1
  · rw [hV]
    exact Below.trodVars hl hb hv h2
theorem open_uv {H : Type} {enc : TypeId × Value → H} {P : Program} {w : World} {base : Nat} {sp : Nat → Bool} {held : Bool} {r : Reach} {b0 : Nat} {t : TypeId} {v : Value} {d : DataW H} {ps : List MemPlace} (ht : P.underlying t = some (.int .u8)) (hval : Value.okWide P w r b0 t v) (hd : DataW.Trod enc P w base sp held t v d ps) :
    ∃ b : UInt8, v = Uv b ∧ d = .lit (.int .u8 (b.toNat : Int)) := by
  obtain ⟨n, rfl, rfl, _, hw⟩ := open_int ht hval hd
  have hx : 0 ≤ n ∧ n ≤ 255 := by simpa [Lit.wf, IntKind.min, IntKind.max, IntKind.signed, IntKind.bits] using hw
  have : ((UInt8.ofNat n.toNat).toNat : Int) = n := by simp; omega
  exact ⟨UInt8.ofNat n.toNat, by show _ = Value.int .u8 ((UInt8.ofNat n.toNat).toNat : Int); rw [this], by rw [this]⟩
end Go.Proofs.YthcbjbkheodejaaGreat.Sl
namespace Go.Proofs.YthcbjbkheodejaaGreat
theorem own : Go.ownKnob Tryz.prog.godebug = none := by kernel_rfl
theorem laidOut : Go.laidOutB Tryz.prog = true := by kernel_rfl
end Go.Proofs.YthcbjbkheodejaaGreat
