/- Layer 7 (nfa): the walks of Make and flood. Layer 7 (nfa): the walk of flood. Layer 7 (nfa): Left, Ends, Starts, Splits. Layer 7 (nfa): Ends, Starts, Splits. -/
import Derived.Test.YtblpgpgbnlhjlaaFa
import Derived.Test.YtblpgpgbnlhjlaaAf
import Derived.Test.YtblpgpgbnlhjlaaSlj
namespace Go.Proofs.Ytblpgpgbnlhjlaa
open Go Go.RowKit Sl
set_option maxRecDepth 100000
set_option maxHeartbeats 8000000
set_option linter.unusedVariables false
set_option linter.unusedSimpArgs false
attribute [local irreducible] ES EL PX wps

theorem am0_room {n : Nat} (h : n ≤ 131072) : AM.Room ⟨[], []⟩ n := ⟨by simp; exact h, rfl, by simp, by simp, (by intro l hl; cases hl), (by intro l hl; cases hl)⟩
abbrev av0 : AV := ⟨none, 0, none, 0, [], []⟩
theorem Sat.auto0 {w0 w : World} {B ga : Nat} {R : List HA} (h : Sat w0 B (HA.blk ga (.cells #[.slice none 0 0, .slice none 0 0, Iv 0] 163) :: R) w) : Sat w0 B (AP ga av0 0 :: R) w := by
  have h1 := (h.nilRow 213 1).nilRow 213 1
  have h2 : Sat w0 B ([HA.edg [], HA.edg []] ++ (HA.row (.slice none 0 0) 213 1 0 [] :: HA.row (.slice none 0 0) 213 1 0 [] :: HA.blk ga (.cells #[.slice none 0 0, .slice none 0 0, Iv 0] 163) :: R)) w :=
    Sat.rules (Hs := []) h1 (by simp [fps, HA.edg]) (fun _ Y hY => by
      simp only [List.mem_cons, List.not_mem_nil, or_false, or_self] at hY
      subst hY
      intro p hp; cases hp)
  exact Sat.pack (Sat.ent (H' := AH ga av0 0 ++ R) h2 (.i (by repeat constructor)))
theorem make_c (ks : List RE) (hf : ∀ k ∈ ks, k.fine) (hl : ks.length ≤ 1024) (hc : costL ks + 1 ≤ 131072) (ad : Option Addr) (cap : Nat) (w : World) (hn : ∀ i k, ks[i]? = some k → ∃ g o, ad = some ⟨g, o, none⟩ ∧ NodeRd w w.heap.size g (o + i * 9) k) :
    Pure Try.prog 44 #[.slice ad ks.length cap] (fun x : Nat × AX (makeM ks).1 => Pv x.1 0) (fun x => [AP x.1 x.2.1 (makeM ks).2]) w := by
  have hm : makeM ks = layL ks (AM.add ⟨[], []⟩) 0 := rfl
  have h0 : AM.Room ⟨[], []⟩ (costL ks + 1) := am0_room hc
  have h1 := add_room h0
  generalize hX : makeM ks = X at *
  obtain ⟨XA, xe⟩ := X
  refine calls_of_ES TB Try.func44 rfl _ Try.ntmps44 rfl (Sat.start w) ?_
  refine .go ?_; repeat constructor
  refine EL.assign rfl rfl rfl ?_
  refine .go ?_; repeat constructor
  refine EL.buildZ rfl rfl rfl rfl rfl ?_
  (refine EL.box rfl rfl rfl ?_; intro g7)
  refine EL.assign rfl rfl rfl ?_
  refine .go ?_; repeat constructor
  refine EL.imp (H' := AP g7 av0 0 :: []) (fun w hs => Sat.auto0 (hs.ent (.i (by repeat constructor)))) ?_
  refine .go ?_; repeat constructor
  refine EL.move rfl rfl rfl ?_
  (refine EL.callM rfl rfl rfl ent65 rfl (nfaAdd_p g7 0 ⟨[], []⟩ ⟨av0, ⟨rfl, rfl⟩⟩ (h0.less (by omega))) (by repeat constructor) ?_; intro y)
  refine EL.assign rfl rfl rfl ?_
  refine .go ?_; repeat constructor
  refine .go ?_; repeat constructor
  refine EL.move rfl rfl rfl ?_
  refine EL.lenL rfl rfl rfl rfl rfl ?_
  refine EL.move rfl rfl rfl ?_
  refine .go ?_; repeat constructor
  refine ES.loop (σ := LS) (fun s => s.i ≤ ks.length ∧ layL (ks.drop s.i) s.b s.q = (XA, xe) ∧ s.q < s.b.out.length ∧ s.b.Room (costL (ks.drop s.i))) (fun s => [(0, .slice ad ks.length cap), (3, Pv g7 0), (4, Iv (s.q : Nat)), (11, Iv (ks.length : Nat)), (12, Iv (s.i : Nat))])
    (fun s => AP g7 s.x.1 0 :: []) (fun s => ks.length - s.i) ⟨0, _, 0, y⟩ ⟨Nat.zero_le _, hm.symm, by rw [add_len]; simp, h1⟩ ⟨rfl, rfl, rfl, rfl, rfl, trivial⟩ (.i (by repeat constructor)) ?_
  rintro ⟨i, b, q, z⟩ ⟨hi1, hgo, hq, hroom⟩
  dsimp only at hi1 hgo hq hroom ⊢
  refine .go ?_; repeat constructor
  refine EL.lss rfl rfl rfl rfl ?_
  refine .go ?_; repeat constructor
  refine ES.condD rfl (fun hlt => ?_) (fun hge => ?_)
  · have hlt' : i < ks.length := by omega
    obtain ⟨k, hki⟩ : ∃ k, ks[i]? = some k := ⟨_, List.getElem?_eq_getElem hlt'⟩
    have hmem := List.mem_of_getElem? hki
    obtain ⟨g, o, rfl, hnk⟩ := hn i k hki
    rw [List.drop_eq_getElem_cons hlt', show ks[i] = k from (List.getElem?_eq_some_iff.1 hki).2] at hgo hroom
    rw [costL] at hroom
    rw [layL] at hgo
    have hnext := (lay_room k).room b q _ hroom hq
    refine .go ?_; repeat constructor
    refine EL.move rfl rfl rfl ?_
    refine EL.assign rfl rfl rfl ?_
    refine .go ?_; repeat constructor
    refine EL.move rfl rfl rfl ?_
    refine EL.move rfl rfl rfl ?_
    refine EL.move rfl rfl rfl ?_
    refine EL.indexAddrL rfl rfl rfl rfl rfl rfl rfl (by omega) ?_
    refine EL.move rfl rfl rfl ?_
    (refine EL.callMw rfl rfl rfl ent66 rfl (lay_c w w.heap.size k (hf k hmem) g (o + i * 9) hnk g7 0 b z q hq (hroom.less (by omega))) (by repeat constructor) ?_; intro u)
    refine EL.assign rfl rfl rfl ?_
    refine .go ?_; repeat constructor
    refine EL.add1 rfl rfl rfl rfl (by omega) ?_
    refine EL.move rfl rfl rfl ?_
    refine .go ?_; repeat constructor
    exact PX.loop ⟨i + 1, (layM k b q).1, (layM k b q).2, u⟩ ⟨hlt', hgo, hnext.2.1, hnext.1⟩ (by simp only; omega) ⟨rfl, rfl, rfl, rfl, rfl, trivial⟩ (.i (by repeat constructor))
  · obtain rfl : i = ks.length := by omega
    rw [List.drop_length, layL] at hgo
    cases hgo
    refine .go ?_; repeat constructor
    refine EL.imp (H' := AH g7 z.1 0) (fun w hs => (Sat.unpack (R := []) hs).ent (.i (by rw [List.append_nil]; exact .refl _))) ?_
    refine .go ?_; repeat constructor
    refine EL.move rfl rfl rfl ?_
    refine EL.move rfl rfl rfl ?_
    refine EL.nilCheck rfl rfl rfl ?_
    refine EL.fieldAddr rfl rfl rfl rfl rfl rfl rfl rfl ?_
    (apply EL.storeB; exact rfl; exact rfl; exact rfl; exact rfl; exact rfl; exact rfl; (case p => repeat constructor); exact (by first | decide | exact Nat.le_of_ble_eq_true rfl | simp))
    refine .go ?_; repeat constructor
    refine EL.move rfl rfl rfl ?_
    refine EL.assign rfl rfl rfl ?_
    refine .go ?_; repeat constructor
    refine PX.ret rfl Try.results44 (.cons (.tmp rfl) .nil) (fun w hs => ⟨(g7, z), rfl, ?_⟩)
    exact Sat.pack (R := []) (by rw [List.append_nil]; exact hs.ent (.i (by repeat constructor)))
end Go.Proofs.Ytblpgpgbnlhjlaa
namespace Go.Proofs.Ytblpgpgbnlhjlaa
open Go Go.RowKit Sl
set_option maxRecDepth 100000
set_option maxHeartbeats 8000000
set_option linter.unusedVariables false
set_option linter.unusedSimpArgs false
attribute [local irreducible] ES EL PX wps

def prC (p : Nat × Nat) : List Value := [Iv (p.1 : Nat), Iv (p.2 : Nat)]
def prsC (l : List (Nat × Nat)) : List Value := l.flatMap prC
theorem prsC_len : ∀ l : List (Nat × Nat), (prsC l).length = l.length * 2
  | [] => rfl
  | p :: l => by
    have := prsC_len l
    simp only [prsC, List.flatMap_cons, List.length_append, List.length_cons] at this ⊢
    rw [this]; simp only [prC, List.length_cons, List.length_nil]; omega
theorem prsC_snoc (l : List (Nat × Nat)) (p : Nat × Nat) : prsC (l ++ [p]) = prsC l ++ prC p := by simp [prsC]
theorem edsC_get : ∀ (es : List Ed) (i : Nat) (e : Ed), es[i]? = some e → ∀ j u, (edC e)[j]? = some u → (edsC es)[i * 6 + j]? = some u
  | [], i, e, h, _, _, _ => by simp at h
  | e' :: es, 0, e, h, j, u, hj => by
    simp only [List.getElem?_cons_zero, Option.some.injEq] at h
    subst h
    have hlt := (List.getElem?_eq_some_iff.1 hj).1
    rw [Nat.zero_mul, Nat.zero_add]
    show (edC e' ++ edsC es)[j]? = some u
    rw [List.getElem?_append_left hlt]; exact hj
  | e' :: es, i + 1, e, h, j, u, hj => by
    simp only [List.getElem?_cons_succ] at h
    have ih := edsC_get es i e h j u hj
    show (edC e' ++ edsC es)[(i + 1) * 6 + j]? = some u
    rw [List.getElem?_append_right (by simp only [edC, List.length_cons, List.length_nil]; omega)]
    rw [show (i + 1) * 6 + j - (edC e').length = i * 6 + j by simp only [edC, List.length_cons, List.length_nil]; omega]
    exact ih
/-- The search's block begins with the subject, and with the count. -/
abbrev WB (gs : Nat) (s : List UInt8) (st : Nat) (rest : List Value) (ty : TypeId) : HA := HA.blk gs (.cells (Sv s :: Iv (st : Nat) :: rest).toArray ty)
theorem wb_set (s : List UInt8) (a : Value) (b : Nat) (rest : List Value) (ty : TypeId) : Obj.cells ((Sv s :: a :: rest).toArray.setIfInBounds 1 (Iv (b : Nat))) ty (0, 0) = Obj.cells (Sv s :: Iv (b : Nat) :: rest).toArray ty (0, 0) := by simp
abbrev BR (g n : Nat) (l : List Bool) : HA := HA.row (.slice (some ⟨g, 0, none⟩) n n) 4 1 n (l.map Value.bool)
abbrev TR (ad : Option Addr) (cap : Nat) (l : List (Nat × Nat)) : HA := HA.row (.slice ad l.length cap) 190 2 l.length (prsC l)
structure FL where
  f : Nat
  st : FS
  ad : Option Addr
  cap : Nat
theorem blk_sub {w : World} {g off e : Nat} {cs : Array Value} {vs : List Value} (h : w.heap[g]? = some (.cells cs e (0, 0))) (hv : (cs.toList.drop off).take vs.length = vs) : ∀ j u, vs[j]? = some u → w.cell? ((⟨g, off, none⟩ : Addr).add j) = some u := fun j u hj => by
  rw [add_n, blk_cell h]
  rw [← hv, List.getElem?_take] at hj
  split at hj
  · rw [List.getElem?_drop] at hj
    simpa using hj
  · cases hj
theorem flood_c (gs : Nat) (s : List UInt8) (hs : s.length ≤ 1024) (st0 : Nat) (hst0 : st0 ≤ 1152921504606846976) (rest : List Value) (ty : TypeId) (es : List (List Ed)) (hok : EdsOk es) (hN : es.length ≤ 131072) (hrow : ∀ l ∈ es, l.length ≤ 1048576)
    (ps : List EP) (hps : ps.map Prod.snd = es) (oad : Option Addr) (ocap : Nat) (x0 : Nat × Nat) (h1 : x0.1 < es.length) (h2 : x0.2 ≤ s.length) (goal : Nat) (fwd : Bool) :
    Mut Try.prog 87 #[Pv gs 0, .slice oad ps.length ocap, .agg #[Iv (x0.1 : Nat), Iv (x0.2 : Nat)], Iv (goal : Nat), .bool fwd] [WB gs s st0 rest ty, OR oad ocap ps, HA.edg ps]
      (fun g : Nat => .slice (some ⟨g, 0, none⟩) (s.length + 1) (s.length + 1)) (fun g => [BR g (s.length + 1) (floodM es s x0 goal fwd st0).marks, WB gs s (floodM es s x0 goal fwd st0).steps rest ty, OR oad ocap ps, HA.edg ps]) := by
  intro w0 B R w h
  replace h : Sat w0 B (WB gs s st0 rest ty :: OR oad ocap ps :: HA.edg ps :: R) w := h
  have hpl : ps.length = es.length := by rw [← hps, List.length_map]
  have hrows : ∀ p ∈ ps, ∃ ad cap, p.1 = .slice ad p.2.length cap := fun p hp => row_val ((h.all (HA.edg ps) (by simp) : (HA.edg ps).holds w) p hp)
  obtain ⟨og, rfl⟩ := (row_form (h.all (OR oad ocap ps) (by simp))).2.2.2.2 (by omega)
  have hmu0 := fs0_ok h1 h2 st0
  have hidx := idx_lt h1 h2
  have hbig : es.length * (s.length + 1) ≤ 131072 * 1025 := Nat.mul_le_mul hN (by omega)
  obtain ⟨F0, hF0⟩ : ∃ F0, F0 = es.length * (s.length + 1) := ⟨_, rfl⟩
  obtain ⟨r, hr⟩ : ∃ r, r = floodM es s x0 goal fwd st0 := ⟨_, rfl⟩
  have hgo0 : floodGo es s goal fwd F0 (fs0 es.length s.length x0 st0) = r := by rw [hr, hF0]; rfl
  rw [← hr]
  rw [← hF0] at hidx hbig hmu0
  obtain ⟨n, hn⟩ : ∃ n, n = s.length := ⟨_, rfl⟩
  refine calls_of_ES TB Try.func87 rfl _ Try.ntmps87 rfl h ?_
  refine .gr ?_; repeat constructor
  (refine EL.box rfl rfl rfl ?_; intro g7)
  refine EL.assign rfl rfl rfl ?_
  refine .gr ?_; repeat constructor
  refine EL.move rfl rfl rfl ?_
  refine EL.nilCheck rfl rfl rfl ?_
  refine EL.fieldAddr rfl rfl rfl rfl rfl rfl rfl rfl ?_
  (apply EL.loadB; exact rfl; exact rfl; exact rfl; exact rfl; exact rfl; (case hm => repeat constructor); exact rfl)
  refine EL.lenS rfl rfl rfl rfl rfl ?_
  refine EL.assign rfl rfl rfl ?_
  refine .gr ?_; repeat constructor
  refine .gr ?_; repeat constructor
  refine EL.move rfl rfl rfl ?_
  refine EL.add1 rfl rfl rfl rfl (by omega) ?_
  (refine EL.makeSlice (n := s.length + 1) rfl rfl rfl rfl rfl rfl (by show 1 * (s.length + 1) ≤ _; omega) (by unfold maxLen; omega) ?_; intro g28; refine EL.rowEq (v := .slice (some ⟨g28, 0, none⟩) (s.length + 1) (s.length + 1)) (by repeat constructor) ((made1 _ _).trans (List.map_replicate (f := Value.bool) (a := false)).symm) ?_)
  refine EL.assign rfl rfl rfl ?_
  refine .gr ?_; repeat constructor
  refine .gr ?_; repeat constructor
  refine EL.move rfl rfl rfl ?_
  refine EL.lenL rfl rfl rfl rfl rfl ?_
  refine EL.move rfl rfl rfl ?_
  refine EL.add1 rfl rfl rfl rfl (by omega) ?_
  (refine EL.mulN (m := ps.length) rfl rfl rfl rfl rfl (by rw [hpl, ← hF0]; omega) ?_; refine EL.rew (d := 33) (v' := Iv (F0 : Nat)) rfl (by rw [hpl, ← hF0]) ?_)
  (refine EL.makeSlice (n := F0) rfl rfl rfl rfl rfl rfl (by show 1 * F0 ≤ _; omega) (by unfold maxLen; omega) ?_; intro g34; refine EL.rowEq (v := .slice (some ⟨g34, 0, none⟩) F0 F0) (by repeat constructor) ((made1 _ _).trans (List.map_replicate (f := Value.bool) (a := false)).symm) ?_)
  refine EL.assign rfl rfl rfl ?_
  refine .gr ?_; repeat constructor
  refine .gr ?_; repeat constructor
  refine EL.move rfl rfl rfl ?_
  refine EL.fieldAddr rfl rfl rfl rfl rfl rfl rfl rfl ?_
  (apply EL.loadB; exact rfl; exact rfl; exact rfl; exact rfl; exact rfl; (case hm => repeat constructor); exact rfl)
  refine EL.move rfl rfl rfl ?_
  refine EL.add1 rfl rfl rfl rfl (by omega) ?_
  refine EL.mulN (m := x0.1) rfl rfl rfl rfl rfl (by omega) ?_
  refine EL.fieldAddr rfl rfl rfl rfl rfl rfl rfl rfl ?_
  (apply EL.loadB; exact rfl; exact rfl; exact rfl; exact rfl; exact rfl; (case hm => repeat constructor); exact rfl)
  refine EL.addN rfl rfl rfl rfl rfl (by omega) ?_
  refine EL.indexAddrL1 rfl rfl rfl rfl rfl rfl rfl rfl (by omega) ?_
  (refine EL.storeR rfl rfl rfl rfl rfl rfl (by repeat constructor) (by simp; omega) ?_; refine EL.rowEq (v := .slice (some ⟨g34, 0, none⟩) F0 F0) (by repeat constructor) (List.map_set (f := Value.bool) (a := true)).symm ?_)
  refine .gr ?_; repeat constructor
  refine .gr ?_; repeat constructor
  (apply EL.loadAggB; exact rfl; exact rfl; exact rfl; exact rfl; exact rfl; (case hm => repeat constructor); exact rfl)
  (refine EL.buildSlice1 rfl rfl rfl rfl rfl rfl rfl rfl rfl rfl ?_; intro b46)
  refine EL.assign rfl rfl rfl ?_
  refine .gr ?_; repeat constructor
  refine ES.loop (σ := FL) (fun z => z.st.Ok es.length s.length ∧ z.st.mu ≤ z.f ∧ z.f ≤ F0 ∧ floodGo es s goal fwd z.f z.st = r ∧ z.st.steps ≤ st0 + (F0 - z.f) * 1048576)
    (fun z => [(0, Pv gs 0), (1, .slice (some ⟨og, 0, none⟩) ps.length ocap), (3, Iv (goal : Nat)), (4, .bool fwd), (11, Iv (s.length : Nat)), (12, .slice (some ⟨g28, 0, none⟩) (s.length + 1) (s.length + 1)), (13, .slice (some ⟨g34, 0, none⟩) F0 F0), (14, .slice z.ad z.st.todo.length z.cap)])
    (fun z => WB gs s z.st.steps rest ty :: BR g28 (s.length + 1) z.st.marks :: BR g34 F0 z.st.seen :: TR z.ad z.cap z.st.todo :: OR (some ⟨og, 0, none⟩) ocap ps :: HA.edg ps :: R) (fun z => z.f) ⟨F0, fs0 es.length s.length x0 st0, some ⟨b46, 0, none⟩, 1⟩
    ⟨hmu0.1, by rw [hmu0.2]; exact Nat.le_refl _, Nat.le_refl _, hgo0, by simp [fs0]⟩ ⟨rfl, rfl, rfl, rfl, rfl, rfl, rfl, rfl, trivial⟩ (by simp only [fs0, hF0]; exact (.i (by repeat constructor))) ?_
  rintro ⟨f, st, tad, tcap⟩ ⟨zok, zmu, zf, zgo, zst⟩
  dsimp only at zok zmu zf zgo zst ⊢
  refine .gr ?_; repeat constructor
  refine EL.move rfl rfl rfl ?_
  refine EL.lenL rfl rfl rfl rfl rfl ?_
  refine EL.gtr rfl rfl rfl rfl ?_
  refine .gr ?_; repeat constructor
  refine ES.condD rfl (fun hpos => ?_) (fun hnone => ?_)
  rotate_left
  · have hnil : st.todo = [] := List.eq_nil_of_length_eq_zero (by omega)
    have hend : st = r := by
      rw [← zgo]
      cases f with
      | zero => rfl
      | succ f => rw [floodGo, hnil]; rfl
    rw [hend]
    refine .gr ?_; repeat constructor
    refine EL.move rfl rfl rfl ?_
    refine EL.assign rfl rfl rfl ?_
    refine .gr ?_; repeat constructor
    exact PX.ret rfl Try.results87 (.cons (.tmp rfl) .nil) (fun w hs => ⟨g28, rfl, hs.ent (.i (by repeat constructor))⟩)
  obtain ⟨p, hp⟩ : ∃ p, st.todo.getLast? = some p := ⟨_, List.getLast?_eq_some_getLast (by intro e; rw [e] at hpos; simp at hpos)⟩
  obtain ⟨pok, pmu, pq, pa⟩ := pop_ok (goal := goal) zok hp
  have hsplit := last_split hp
  obtain ⟨f, rfl⟩ : ∃ f', f = f' + 1 := ⟨f - 1, by simp only [FS.mu] at zmu; omega⟩
  rw [floodGo, hp] at zgo
  simp only at zgo
  obtain ⟨td, htd⟩ : ∃ td, td = st.todo.dropLast := ⟨_, rfl⟩
  have hpm : popM goal st p = ⟨if p.1 = goal then st.marks.set p.2 true else st.marks, st.seen, td, st.steps⟩ := by rw [htd]; rfl
  rw [← htd] at hsplit
  have hlen : st.todo.length = td.length + 1 := by rw [hsplit]; simp
  have htl : td.length + 1 ≤ 131072 * 1025 := by simp only [FS.mu] at zmu; omega
  refine ES.rowForm (e := 190) (sz := 2) (n := st.todo.length) (cs := prsC st.todo) (ad := tad) (len := st.todo.length) (cap := tcap) (by repeat constructor) (fun hf => ?_)
  obtain ⟨tg, rfl⟩ := hf.2.2.2.2 (by omega)
  have hcap := hf.2.1
  have hpl2 := prsC_len td
  have hcells : prsC st.todo = prsC td ++ prC p := by rw [hsplit, prsC_snoc]
  obtain ⟨pp, hpp⟩ : ∃ pp, ps[p.1]? = some pp := ⟨_, List.getElem?_eq_getElem (by rw [hpl]; exact pq)⟩
  obtain ⟨iad, icap, hpv⟩ := hrows pp (List.mem_of_getElem? hpp)
  have hpe : es.getD p.1 [] = pp.2 := by rw [← hps, List.getD_eq_getElem?_getD, List.getElem?_map, hpp]; rfl
  have hfst : (ps.map Prod.fst)[p.1]? = some (.slice iad pp.2.length icap) := by rw [List.getElem?_map, hpp, ← hpv]; rfl
  have hmem2 : pp.2 ∈ es := by rw [← hps]; exact List.mem_map_of_mem (List.mem_of_getElem? hpp)
  have hplen := hrow pp.2 hmem2
  have heok : ∀ e ∈ pp.2, e.to < es.length ∧ e.kind ≤ 3 := hok pp.2 hmem2
  have hpin : pp ∈ ps := List.mem_of_getElem? hpp
  rw [hpe] at zgo
  unfold TR
  rw [hlen, hcells]
  refine .gr ?_; repeat constructor
  refine EL.move rfl rfl rfl ?_
  refine EL.move rfl rfl rfl ?_
  refine EL.lenL rfl rfl rfl rfl rfl ?_
  refine EL.sub1 rfl rfl rfl rfl (by omega) (by omega) ?_
  refine EL.indexAddrL rfl rfl rfl rfl rfl rfl rfl (by omega) ?_
  refine EL.ofRV (RV.loadRA (prC p) rfl rfl rfl rfl (by repeat constructor) (by show ((prsC td ++ prC p).drop (0 + (td.length + 1 - 1) * 2)).take 2 = prC p; rw [show 0 + (td.length + 1 - 1) * 2 = (prsC td).length by omega, List.drop_left]; rfl)) rfl rfl rfl (by intro c h; cases h) ?_
  (refine EL.alloc rfl rfl rfl ?_; intro g15)
  (apply EL.storeAll; exact rfl; exact rfl; exact rfl; exact rfl; exact rfl; (case p => repeat constructor); exact rfl; (case h1 => exact (by first | rfl | exact all1 rfl | (intro u hu; simp only [List.mem_cons, List.not_mem_nil, or_false] at hu; rcases hu with rfl | rfl | rfl | rfl <;> rfl) | (intro u hu; simp at hu; rcases hu with rfl | rfl | rfl | rfl <;> rfl) | (intro u hu; simp at hu; rcases hu with rfl | rfl | rfl <;> rfl) | (intro u hu; simp at hu; rcases hu with rfl | rfl <;> rfl) | (intro u hu; simp at hu; obtain ⟨_, _, rfl⟩ := hu; rfl))))
  refine .gr ?_; repeat constructor
  refine .gr ?_; repeat constructor
  refine EL.move rfl rfl rfl ?_
  refine EL.move rfl rfl rfl ?_
  refine EL.lenL rfl rfl rfl rfl rfl ?_
  refine EL.sub1 rfl rfl rfl rfl (by omega) (by omega) ?_
  refine EL.ofRV (RV.sliceHi (hi := td.length) rfl rfl rfl rfl rfl (by omega)) rfl rfl rfl (by intro c h; cases h) ?_
  refine EL.assign rfl rfl rfl ?_
  refine .gr ?_; repeat constructor
  refine EL.imp (H' := HA.blk g15 (.cells #[Iv (p.1 : Nat), Iv (p.2 : Nat)] 190) :: WB gs s st.steps rest ty :: BR g28 (s.length + 1) st.marks :: BR g34 F0 st.seen :: TR (some ⟨tg, 0, none⟩) tcap td :: OR (some ⟨og, 0, none⟩) ocap ps :: HA.edg ps :: R) (fun w hs => ?_) ?_
  · have k1 := Sat.cutRow (m := td.length) (hs.ent (H' := HA.row (.slice (some ⟨tg, 0, none⟩) (td.length + 1) tcap) 190 2 (td.length + 1) (prsC td ++ prC p) :: HA.blk g15 (.cells #[Iv (p.1 : Nat), Iv (p.2 : Nat)] 190) :: WB gs s st.steps rest ty :: BR g28 (s.length + 1) st.marks :: BR g34 F0 st.seen :: OR (some ⟨og, 0, none⟩) ocap ps :: HA.edg ps :: R) (.i (by repeat constructor))) (by omega)
    rw [← hpl2, List.take_left] at k1
    exact k1.ent (.i (by repeat constructor))
  refine .gr ?_; repeat constructor
  refine EL.fieldAddr rfl rfl rfl rfl rfl rfl rfl rfl ?_
  (apply EL.loadB; exact rfl; exact rfl; exact rfl; exact rfl; exact rfl; (case hm => repeat constructor); exact rfl)
  refine EL.move rfl rfl rfl ?_
  refine EL.eqlI rfl rfl rfl rfl ?_
  refine .gr ?_; repeat constructor
  refine ES.cutC (X := Unit) (fun _ => [(0, Pv gs 0), (1, .slice (some ⟨og, 0, none⟩) ps.length ocap), (3, Iv (goal : Nat)), (4, .bool fwd), (11, Iv (s.length : Nat)), (12, .slice (some ⟨g28, 0, none⟩) (s.length + 1) (s.length + 1)), (13, .slice (some ⟨g34, 0, none⟩) F0 F0), (14, .slice (some ⟨tg, 0, none⟩) td.length tcap), (15, Pv g15 0)])
    (fun _ => HA.blk g15 (.cells #[Iv (p.1 : Nat), Iv (p.2 : Nat)] 190) :: WB gs s st.steps rest ty :: BR g28 (s.length + 1) (popM goal st p).marks :: BR g34 F0 st.seen :: TR (some ⟨tg, 0, none⟩) tcap td :: OR (some ⟨og, 0, none⟩) ocap ps :: HA.edg ps :: R) ?_ (fun _ => ?_)
  · refine ES.condD rfl (fun hg => ?_) (fun hg => ?_)
    · have hm : (popM goal st p).marks = st.marks.set p.2 true := by rw [hpm]; exact if_pos (by omega)
      rw [hm]
      refine .gr ?_; repeat constructor
      refine EL.move rfl rfl rfl ?_
      refine EL.fieldAddr rfl rfl rfl rfl rfl rfl rfl rfl ?_
      (apply EL.loadB; exact rfl; exact rfl; exact rfl; exact rfl; exact rfl; (case hm => repeat constructor); exact rfl)
      refine EL.indexAddrL1 rfl rfl rfl rfl rfl rfl rfl rfl (by omega) ?_
      (refine EL.storeR rfl rfl rfl rfl rfl rfl (by repeat constructor) (by rw [List.length_map, zok.marks]; omega) ?_; refine EL.rowEq (v := .slice (some ⟨g28, 0, none⟩) (s.length + 1) (s.length + 1)) (by repeat constructor) (List.map_set (f := Value.bool) (a := true)).symm ?_)
      refine .gr ?_; repeat constructor
      exact PX.cutX () ⟨rfl, rfl, rfl, rfl, rfl, rfl, rfl, rfl, rfl, trivial⟩ (.i (by repeat constructor))
    · have hm : (popM goal st p).marks = st.marks := by rw [hpm]; exact if_neg (by omega)
      rw [hm]
      refine .gr ?_; repeat constructor
      exact PX.cutX () ⟨rfl, rfl, rfl, rfl, rfl, rfl, rfl, rfl, rfl, trivial⟩ (.i (by repeat constructor))
  generalize hM : (popM goal st p).marks = mk
  have hpm2 : popM goal st p = ⟨mk, st.seen, td, st.steps⟩ := by rw [← hM, hpm]
  rw [hpm2] at pok pmu zgo
  have hed := edges_ok (fwd := fwd) pa pp.2 pok (fun e he => (heok e he).1)
  have hcs := cnts_le s.length fwd p.2 pp.2
  generalize hX : pp.2.foldl (edgeM s fwd p.2) ⟨mk, st.seen, td, st.steps⟩ = stX at zgo hed
  refine .gr ?_; repeat constructor
  refine EL.move rfl rfl rfl ?_
  refine EL.fieldAddr rfl rfl rfl rfl rfl rfl rfl rfl ?_
  (apply EL.loadB; exact rfl; exact rfl; exact rfl; exact rfl; exact rfl; (case hm => repeat constructor); exact rfl)
  refine EL.indexAddrL1 rfl rfl rfl rfl rfl rfl rfl rfl (by omega) ?_
  refine EL.loadR rfl rfl rfl rfl rfl (by repeat constructor) hfst ?_
  refine EL.lenL rfl rfl rfl rfl rfl ?_
  refine EL.move rfl rfl rfl ?_
  refine .gr ?_; repeat constructor
  refine ES.loop (σ := FL) (fun z => z.f ≤ pp.2.length ∧ (pp.2.drop z.f).foldl (edgeM s fwd p.2) z.st = stX ∧ z.st.Ok es.length s.length ∧ z.st.mu ≤ f ∧ z.st.steps ≤ st.steps + z.f)
    (fun z => [(0, Pv gs 0), (1, .slice (some ⟨og, 0, none⟩) ps.length ocap), (3, Iv (goal : Nat)), (4, .bool fwd), (11, Iv (s.length : Nat)), (12, .slice (some ⟨g28, 0, none⟩) (s.length + 1) (s.length + 1)), (13, .slice (some ⟨g34, 0, none⟩) F0 F0), (14, .slice z.ad z.st.todo.length z.cap), (15, Pv g15 0), (73, .slice iad pp.2.length icap), (74, Iv (pp.2.length : Nat)), (75, Iv (z.f : Nat))])
    (fun z => HA.blk g15 (.cells #[Iv (p.1 : Nat), Iv (p.2 : Nat)] 190) :: WB gs s z.st.steps rest ty :: BR g28 (s.length + 1) z.st.marks :: BR g34 F0 z.st.seen :: TR z.ad z.cap z.st.todo :: OR (some ⟨og, 0, none⟩) ocap ps :: HA.edg ps :: R) (fun z => pp.2.length - z.f)
    ⟨0, ⟨mk, st.seen, td, st.steps⟩, some ⟨tg, 0, none⟩, tcap⟩ ⟨Nat.zero_le _, hX, pok, by dsimp only; omega, Nat.le_refl _⟩ ⟨rfl, rfl, rfl, rfl, rfl, rfl, rfl, rfl, rfl, rfl, rfl, rfl, trivial⟩ (.i (by repeat constructor)) ?_
  rintro ⟨i, sj, jad, jcap⟩ ⟨ji, jgo, jok, jmu, jst⟩
  dsimp only at ji jgo jok jmu jst ⊢
  refine .gr ?_; repeat constructor
  refine EL.lss rfl rfl rfl rfl ?_
  refine .gr ?_; repeat constructor
  refine ES.condD rfl (fun hlt => ?_) (fun hge => ?_)
  rotate_left
  · obtain rfl : i = pp.2.length := by omega
    rw [List.drop_length] at jgo
    have jgo : sj = stX := jgo
    subst jgo
    refine .gr ?_; repeat constructor
    exact PX.loop ⟨f, sj, jad, jcap⟩ ⟨jok, jmu, by dsimp only; omega, zgo, by dsimp only; rw [show F0 - f = F0 - (f + 1) + 1 by omega]; omega⟩ (by simp only; omega) ⟨rfl, rfl, rfl, rfl, rfl, rfl, rfl, rfl, trivial⟩ (.i (by repeat constructor))
  have hlt' : i < pp.2.length := by omega
  obtain ⟨e, hei⟩ : ∃ e, pp.2[i]? = some e := ⟨_, List.getElem?_eq_getElem hlt'⟩
  have hemem := List.mem_of_getElem? hei
  obtain ⟨eto, ekind⟩ := heok e hemem
  rw [List.drop_eq_getElem_cons hlt', show pp.2[i] = e from (List.getElem?_eq_some_iff.1 hei).2, List.foldl_cons] at jgo
  have hstep := edge_ok (fwd := fwd) jok pa eto
  have hcl := cnt_le s.length fwd e p.2
  have hbig2 : e.to * (s.length + 1) + s.length < F0 := by rw [hF0]; exact idx_lt eto (Nat.le_refl _)
  refine ES.know (P := ∃ ig, iad = some ⟨ig, 0, none⟩) (fun w hs => ?_) (fun hig => ?_)
  · have hr := ((hs.all (HA.edg ps) (by simp) : (HA.edg ps).holds w) pp hpin)
    rw [hpv] at hr
    exact (row_form hr).2.2.2.2 (by omega)
  obtain ⟨ig, rfl⟩ := hig
  have hrd : ∀ (w : World), (HA.edg ps).holds w → ∀ j u, (edC e)[j]? = some u → w.cell? ((⟨ig, 0 + i * 6, none⟩ : Addr).add j) = some u := fun w hw j u hj => by
    have hr := hw pp hpin
    rw [hpv] at hr
    rw [add_n]
    exact row_cell hr _ u (by rw [Nat.zero_add]; exact edsC_get pp.2 i e hei j u hj)
  refine .gr ?_; repeat constructor
  refine EL.indexAddrL rfl rfl rfl rfl rfl rfl rfl (by omega) ?_
  refine EL.loadAgg (cs := edC e) rfl rfl rfl rfl rfl rfl (fun w hs => hrd w (hs.all (HA.edg ps) (by simp))) ?_
  (refine EL.alloc rfl rfl rfl ?_; intro g17)
  (apply EL.storeAll; exact rfl; exact rfl; exact rfl; exact rfl; exact rfl; (case p => repeat constructor); exact rfl; (case h1 => exact (by first | rfl | exact all1 rfl | (intro u hu; simp only [List.mem_cons, List.not_mem_nil, or_false] at hu; rcases hu with rfl | rfl | rfl | rfl <;> rfl) | (intro u hu; simp at hu; rcases hu with rfl | rfl | rfl | rfl <;> rfl) | (intro u hu; simp at hu; rcases hu with rfl | rfl | rfl <;> rfl) | (intro u hu; simp at hu; rcases hu with rfl | rfl <;> rfl) | (intro u hu; simp at hu; obtain ⟨_, _, rfl⟩ := hu; rfl))))
  refine .gr ?_; repeat constructor
  refine .gr ?_; repeat constructor
  refine EL.fieldAddr rfl rfl rfl rfl rfl rfl rfl rfl ?_
  (apply EL.loadB; exact rfl; exact rfl; exact rfl; exact rfl; exact rfl; (case hm => repeat constructor); exact rfl)
  refine EL.assign rfl rfl rfl ?_
  refine .gr ?_; repeat constructor
  refine EL.fieldAddr rfl rfl rfl rfl rfl rfl rfl rfl ?_
  (apply EL.loadB; exact rfl; exact rfl; exact rfl; exact rfl; exact rfl; (case hm => repeat constructor); exact rfl)
  repeat (first | apply EL.nil | apply ES.seq | apply ES.skip)
  refine ES.cutE (X := { b : Nat // placeM s fwd e p.2 = some b }) (Y := PLift (placeM s fwd e p.2 = none)) 3 (fun b => [(0, Pv gs 0), (1, .slice (some ⟨og, 0, none⟩) ps.length ocap), (3, Iv (goal : Nat)), (4, .bool fwd), (11, Iv (s.length : Nat)), (12, .slice (some ⟨g28, 0, none⟩) (s.length + 1) (s.length + 1)), (13, .slice (some ⟨g34, 0, none⟩) F0 F0), (14, .slice jad sj.todo.length jcap), (15, Pv g15 0), (17, Pv g17 0), (18, Iv (b.1 : Nat)), (73, .slice (some ⟨ig, 0, none⟩) pp.2.length icap), (74, Iv (pp.2.length : Nat)), (75, Iv (i : Nat))]) (fun _ => HA.blk g17 (.cells (edC e).toArray 215) :: HA.blk g15 (.cells #[Iv (p.1 : Nat), Iv (p.2 : Nat)] 190) :: WB gs s (sj.steps + cntM s.length fwd e p.2) rest ty :: BR g28 (s.length + 1) sj.marks :: BR g34 F0 sj.seen :: TR jad jcap sj.todo :: OR (some ⟨og, 0, none⟩) ocap ps :: HA.edg ps :: R) (fun _ => [(0, Pv gs 0), (1, .slice (some ⟨og, 0, none⟩) ps.length ocap), (3, Iv (goal : Nat)), (4, .bool fwd), (11, Iv (s.length : Nat)), (12, .slice (some ⟨g28, 0, none⟩) (s.length + 1) (s.length + 1)), (13, .slice (some ⟨g34, 0, none⟩) F0 F0), (14, .slice jad sj.todo.length jcap), (15, Pv g15 0), (73, .slice (some ⟨ig, 0, none⟩) pp.2.length icap), (74, Iv (pp.2.length : Nat)), (75, Iv (i : Nat))]) (fun _ => HA.blk g17 (.cells (edC e).toArray 215) :: HA.blk g15 (.cells #[Iv (p.1 : Nat), Iv (p.2 : Nat)] 190) :: WB gs s (sj.steps + cntM s.length fwd e p.2) rest ty :: BR g28 (s.length + 1) sj.marks :: BR g34 F0 sj.seen :: TR jad jcap sj.todo :: OR (some ⟨og, 0, none⟩) ocap ps :: HA.edg ps :: R) ?_ (fun b => ?_) (fun y => ?_)
  · refine .gr ?_; repeat constructor
    refine EL.eqlI rfl rfl rfl rfl ?_
    refine EL.assign rfl rfl rfl ?_
    refine .gr ?_; repeat constructor
    refine ES.condD rfl (fun k2 => ?_) (fun k2 => ?_)
    · have hk : e.kind = 2 := by have h : ((e.kind : Nat) : Int) = 2 := k2; omega
      have hc0 : cntM s.length fwd e p.2 = 0 := by unfold cntM; rw [if_neg (by omega)]
      have hpl : placeM s fwd e p.2 = if p.2 = 0 then some p.2 else none := by unfold placeM; rw [if_neg (by omega), if_pos hk]
      rw [hc0, Nat.add_zero]
      refine .gr ?_; repeat constructor
      refine EL.move rfl rfl rfl ?_
      refine EL.neqI rfl rfl rfl rfl ?_
      refine .gr ?_; repeat constructor
      refine ES.condN rfl (fun h0 => ?_) (fun h0 => ?_)
      · refine .gr ?_; repeat constructor
        exact PX.cutEx ⟨by rw [hpl, if_neg (by omega)]⟩ ⟨rfl, rfl, rfl, rfl, rfl, rfl, rfl, rfl, rfl, rfl, rfl, rfl, trivial⟩ (.i (by repeat constructor))
      · refine .gr ?_; repeat constructor
        exact PX.cutEn ⟨p.2, by rw [hpl, if_pos (by omega)]⟩ ⟨rfl, rfl, rfl, rfl, rfl, rfl, rfl, rfl, rfl, rfl, rfl, rfl, rfl, rfl, trivial⟩ (.i (by repeat constructor))
    have hk2 : ¬ e.kind = 2 := by have h : ¬ ((e.kind : Nat) : Int) = 2 := k2; omega
    refine .gr ?_; repeat constructor
    refine EL.eqlI rfl rfl rfl rfl ?_
    refine EL.assign rfl rfl rfl ?_
    refine .gr ?_; repeat constructor
    refine ES.condD rfl (fun k3 => ?_) (fun k3 => ?_)
    · have hk : e.kind = 3 := by have h : ((e.kind : Nat) : Int) = 3 := k3; omega
      have hc0 : cntM s.length fwd e p.2 = 0 := by unfold cntM; rw [if_neg (by omega)]
      have hpl : placeM s fwd e p.2 = if p.2 = s.length then some p.2 else none := by unfold placeM; rw [if_neg (by omega), if_neg (by omega), if_pos hk]
      rw [hc0, Nat.add_zero]
      refine .gr ?_; repeat constructor
      refine EL.move rfl rfl rfl ?_
      refine EL.move rfl rfl rfl ?_
      refine EL.neqI rfl rfl rfl rfl ?_
      refine .gr ?_; repeat constructor
      refine ES.condN rfl (fun h0 => ?_) (fun h0 => ?_)
      · refine .gr ?_; repeat constructor
        exact PX.cutEx ⟨by rw [hpl, if_neg (by omega)]⟩ ⟨rfl, rfl, rfl, rfl, rfl, rfl, rfl, rfl, rfl, rfl, rfl, rfl, trivial⟩ (.i (by repeat constructor))
      · refine .gr ?_; repeat constructor
        exact PX.cutEn ⟨p.2, by rw [hpl, if_pos (by omega)]⟩ ⟨rfl, rfl, rfl, rfl, rfl, rfl, rfl, rfl, rfl, rfl, rfl, rfl, rfl, rfl, trivial⟩ (.i (by repeat constructor))
    have hk3 : ¬ e.kind = 3 := by have h : ¬ ((e.kind : Nat) : Int) = 3 := k3; omega
    refine .gr ?_; repeat constructor
    refine EL.eqlI rfl rfl rfl rfl ?_
    refine EL.assign rfl rfl rfl ?_
    refine .gr ?_; repeat constructor
    refine ES.condD rfl (fun k1 => ?_) (fun k1 => ?_)
    rotate_left
    · have hk1 : ¬ e.kind = 1 := by have h : ¬ ((e.kind : Nat) : Int) = 1 := k1; omega
      have hc0 : cntM s.length fwd e p.2 = 0 := by unfold cntM; rw [if_neg (by omega)]
      rw [hc0, Nat.add_zero]
      refine .gr ?_; repeat constructor
      exact PX.cutEn ⟨p.2, by unfold placeM; rw [if_neg hk1, if_neg hk2, if_neg hk3]⟩ ⟨rfl, rfl, rfl, rfl, rfl, rfl, rfl, rfl, rfl, rfl, rfl, rfl, rfl, rfl, trivial⟩ (.i (by repeat constructor))
    have hk : e.kind = 1 := by have h : ((e.kind : Nat) : Int) = 1 := k1; omega
    have hpl : placeM s fwd e p.2 = if inB s.length fwd p.2 = true ∧ hasS e.set (s.getD (bAt fwd p.2) 0).toNat = true then some (if fwd = true then p.2 + 1 else p.2 - 1) else none := by unfold placeM; rw [if_pos hk]
    obtain ⟨bA, hbA⟩ : ∃ bA : Int, bA = if fwd = true then (p.2 : Int) else (p.2 : Int) - 1 := ⟨_, rfl⟩
    refine .gr ?_; repeat constructor
    refine EL.move rfl rfl rfl ?_
    refine EL.assign rfl rfl rfl ?_
    refine .gr ?_; repeat constructor
    refine EL.move rfl rfl rfl ?_
    refine EL.not rfl rfl rfl ?_
    refine .gr ?_; repeat constructor
    refine ES.cutC (X := Unit) (fun _ => [(0, Pv gs 0), (1, .slice (some ⟨og, 0, none⟩) ps.length ocap), (3, Iv (goal : Nat)), (4, .bool fwd), (11, Iv (s.length : Nat)), (12, .slice (some ⟨g28, 0, none⟩) (s.length + 1) (s.length + 1)), (13, .slice (some ⟨g34, 0, none⟩) F0 F0), (14, .slice jad sj.todo.length jcap), (15, Pv g15 0), (17, Pv g17 0), (19, Iv bA), (73, .slice (some ⟨ig, 0, none⟩) pp.2.length icap), (74, Iv (pp.2.length : Nat)), (75, Iv (i : Nat))]) (fun _ => HA.blk g17 (.cells (edC e).toArray 215) :: HA.blk g15 (.cells #[Iv (p.1 : Nat), Iv (p.2 : Nat)] 190) :: WB gs s sj.steps rest ty :: BR g28 (s.length + 1) sj.marks :: BR g34 F0 sj.seen :: TR jad jcap sj.todo :: OR (some ⟨og, 0, none⟩) ocap ps :: HA.edg ps :: R) ?_ (fun _ => ?_)
    · refine ES.cond rfl (fun hf => ?_) (fun hf => ?_)
      · have hf' : fwd = false := by simpa using hf
        refine .gr ?_; repeat constructor
        refine EL.move rfl rfl rfl ?_
        refine EL.sub_ ((p.2 : Int) - 1) rfl rfl rfl rfl (wrap_i64 _ (by omega) (by omega)) ?_
        refine EL.assign rfl rfl rfl ?_
        refine .gr ?_; repeat constructor
        exact PX.cutX () ⟨rfl, rfl, rfl, rfl, rfl, rfl, rfl, rfl, rfl, rfl, getA rfl (congrArg Iv (by rw [hbA, hf']; rfl)), rfl, rfl, rfl, trivial⟩ (.i (by repeat constructor))
      · have hf' : fwd = true := by simpa using hf
        refine .gr ?_; repeat constructor
        exact PX.cutX () ⟨rfl, rfl, rfl, rfl, rfl, rfl, rfl, rfl, rfl, rfl, getA rfl (congrArg Iv (by rw [hbA, hf']; rfl)), rfl, rfl, rfl, trivial⟩ (.i (by repeat constructor))
    refine .gr ?_; repeat constructor
    refine EL.cutX (X := Unit) (fun _ => [(0, Pv gs 0), (1, .slice (some ⟨og, 0, none⟩) ps.length ocap), (3, Iv (goal : Nat)), (4, .bool fwd), (11, Iv (s.length : Nat)), (12, .slice (some ⟨g28, 0, none⟩) (s.length + 1) (s.length + 1)), (13, .slice (some ⟨g34, 0, none⟩) F0 F0), (14, .slice jad sj.todo.length jcap), (15, Pv g15 0), (17, Pv g17 0), (19, Iv bA), (105, .bool (decide (bA < 0 ∨ (s.length : Int) ≤ bA))), (73, .slice (some ⟨ig, 0, none⟩) pp.2.length icap), (74, Iv (pp.2.length : Nat)), (75, Iv (i : Nat))]) (fun _ => HA.blk g17 (.cells (edC e).toArray 215) :: HA.blk g15 (.cells #[Iv (p.1 : Nat), Iv (p.2 : Nat)] 190) :: WB gs s sj.steps rest ty :: BR g28 (s.length + 1) sj.marks :: BR g34 F0 sj.seen :: TR jad jcap sj.todo :: OR (some ⟨og, 0, none⟩) ocap ps :: HA.edg ps :: R) ?_ (fun _ => ?_)
    · refine .gr ?_; repeat constructor
      refine EL.move rfl rfl rfl ?_
      refine EL.lss rfl rfl rfl rfl ?_
      refine EL.move rfl rfl rfl ?_
      first | refine EL.splitD (d := 101) rfl (fun hp101 => ?_) (fun hp101 => ?_) | refine EL.splitN (d := 101) rfl (fun hp101 => ?_) (fun hp101 => ?_) | refine EL.splitB (d := 101) rfl (fun hp101 => ?_) (fun hp101 => ?_)
      · refine EL.pass rfl rfl rfl ?_
        refine EL.pass rfl rfl rfl ?_
        refine EL.pass rfl rfl rfl ?_
        refine EL.pickT rfl rfl rfl rfl ?_
        exact EL.endX () ⟨rfl, rfl, rfl, rfl, rfl, rfl, rfl, rfl, rfl, rfl, rfl, getA rfl (congrArg Value.bool (by rw [Bool.eq_iff_iff]; simp only [decide_eq_true_eq, true_iff]; omega)), rfl, rfl, rfl, trivial⟩ (.i (by repeat constructor))
      · refine EL.move rfl rfl rfl ?_
        refine EL.move rfl rfl rfl ?_
        refine EL.geq rfl rfl rfl rfl ?_
        refine EL.pickF rfl rfl rfl rfl ?_
        exact EL.endX () ⟨rfl, rfl, rfl, rfl, rfl, rfl, rfl, rfl, rfl, rfl, rfl, getA rfl (congrArg Value.bool (by rw [Bool.eq_iff_iff]; simp only [decide_eq_true_eq, true_iff]; omega)), rfl, rfl, rfl, trivial⟩ (.i (by repeat constructor))
    refine ES.condD rfl (fun ho => ?_) (fun ho => ?_)
    · have hin : inB s.length fwd p.2 = false := by
        unfold inB
        cases fwd
        · simp only [Bool.false_eq_true, if_false] at hbA ⊢
          exact decide_eq_false (by omega)
        · simp only [if_true] at hbA ⊢
          exact decide_eq_false (by omega)
      have hc0 : cntM s.length fwd e p.2 = 0 := by unfold cntM; rw [hin, if_neg (by simp)]
      rw [hc0, Nat.add_zero]
      refine .gr ?_; repeat constructor
      exact PX.cutEx ⟨by rw [hpl, hin, if_neg (by simp)]⟩ ⟨rfl, rfl, rfl, rfl, rfl, rfl, rfl, rfl, rfl, rfl, rfl, rfl, trivial⟩ (.i (by repeat constructor))
    obtain ⟨k, hkb⟩ : ∃ k, k = bAt fwd p.2 := ⟨_, rfl⟩
    have hin : inB s.length fwd p.2 = true ∧ bA = (k : Int) ∧ k < s.length := by
      unfold inB
      unfold bAt at hkb
      cases fwd
      · simp only [Bool.false_eq_true, if_false] at hbA hkb ⊢
        exact ⟨decide_eq_true (by omega), by omega, by omega⟩
      · simp only [if_true] at hbA hkb ⊢
        exact ⟨decide_eq_true (by omega), by omega, by omega⟩
    obtain ⟨hin, hbk, hklt⟩ := hin
    have hc1 : cntM s.length fwd e p.2 = 1 := by unfold cntM; rw [hin, if_pos ⟨hk, rfl⟩]
    rw [hin, ← hkb] at hpl
    rw [hc1]
    rw [hbk]
    refine .gr ?_; repeat constructor
    refine EL.move rfl rfl rfl ?_
    refine EL.nilCheck rfl rfl rfl ?_
    refine EL.fieldAddr rfl rfl rfl rfl rfl rfl rfl rfl ?_
    (apply EL.loadB; exact rfl; exact rfl; exact rfl; exact rfl; exact rfl; (case hm => repeat constructor); exact rfl)
    refine EL.add1 rfl rfl rfl rfl (by omega) ?_
    refine EL.nilCheck rfl rfl rfl ?_
    refine EL.fieldAddr rfl rfl rfl rfl rfl rfl rfl rfl ?_
    (refine EL.storeB rfl rfl rfl rfl rfl rfl (by repeat constructor) (by simp) ?_; refine EL.blkEq (g := gs) (by repeat constructor) (wb_set s _ (sj.steps + 1) rest ty) ?_)
    refine .gr ?_; repeat constructor
    refine .gs ?_; repeat constructor
    refine ES.draw (X := Unit) (fun _ => [(0, Pv gs 0), (1, .slice (some ⟨og, 0, none⟩) ps.length ocap), (3, Iv (goal : Nat)), (4, .bool fwd), (11, Iv (s.length : Nat)), (12, .slice (some ⟨g28, 0, none⟩) (s.length + 1) (s.length + 1)), (13, .slice (some ⟨g34, 0, none⟩) F0 F0), (14, .slice jad sj.todo.length jcap), (15, Pv g15 0), (17, Pv g17 0), (19, Iv (k : Nat)), (122, .bool (!hasS e.set (s.getD k 0).toNat)), (73, .slice (some ⟨ig, 0, none⟩) pp.2.length icap), (74, Iv (pp.2.length : Nat)), (75, Iv (i : Nat))]) (fun _ => HA.blk g17 (.cells (edC e).toArray 215) :: HA.blk g15 (.cells #[Iv (p.1 : Nat), Iv (p.2 : Nat)] 190) :: WB gs s (sj.steps + 1) rest ty :: BR g28 (s.length + 1) sj.marks :: BR g34 F0 sj.seen :: TR jad jcap sj.todo :: OR (some ⟨og, 0, none⟩) ocap ps :: HA.edg ps :: R) (HA.blk g17 (.cells (edC e).toArray 215) :: WB gs s (sj.steps + 1) rest ty :: []) mixed (.i (by repeat constructor)) ?_ (fun _ => ?_)
    · refine ED.take 0 rfl (by decide +kernel) CutX.no_panic (by decide +kernel) rfl rfl rfl (RV.fieldAddr rfl rfl rfl rfl rfl rfl) ?_
      refine ED.take 1 rfl (by decide +kernel) CutX.no_panic (by decide +kernel) rfl rfl rfl (RV.loadAgg (cs := [Wv e.set.a, Wv e.set.b, Wv e.set.c, Wv e.set.d]) rfl rfl rfl rfl (fun w hs => blk_sub (hs.all (HA.blk g17 (.cells (edC e).toArray 215)) (by simp)) rfl)) ?_
      refine ED.take 2 rfl (by decide +kernel) CutX.no_panic (by decide +kernel) rfl rfl rfl (RV.move rfl) ?_
      refine ED.take 3 rfl (by decide +kernel) CutX.no_panic (by decide +kernel) rfl rfl rfl (RV.nilCheck rfl) ?_
      refine ED.take 4 rfl (by decide +kernel) CutX.no_panic (by decide +kernel) rfl rfl rfl (RV.fieldAddr rfl rfl rfl rfl rfl rfl) ?_
      refine ED.take 5 rfl (by decide +kernel) CutX.no_panic (by decide +kernel) rfl rfl rfl (RV.loadB rfl rfl rfl (by repeat constructor) rfl) ?_
      refine ED.take 6 rfl (by decide +kernel) CutX.no_panic (by decide +kernel) rfl rfl rfl (RV.move rfl) ?_
      refine ED.take 7 rfl (by decide +kernel) CutX.no_panic (by decide +kernel) rfl rfl rfl (RV.indexSN rfl rfl rfl rfl (by omega)) ?_
      refine ED.loud 8 rfl (by decide +kernel) ?_
      refine EL.callP rfl rfl rfl ent60 rfl (has_c e.set (s.getD k 0)) ?_
      refine ED.next (.i (by repeat constructor)) ?_
      refine ED.take 9 rfl (by decide +kernel) CutX.no_panic (by decide +kernel) rfl rfl rfl (RV.not rfl) ?_
      refine ED.done (by decide +kernel) ?_
      exact PX.cutX () ⟨rfl, rfl, rfl, rfl, rfl, rfl, rfl, rfl, rfl, rfl, rfl, rfl, rfl, rfl, rfl, trivial⟩ (.i (by repeat constructor))
    refine ES.cond rfl (fun hh => ?_) (fun hh => ?_)
    · have hh' : hasS e.set (s.getD k 0).toNat = false := by simpa using hh
      rw [hh', if_neg (by simp)] at hpl
      refine .gr ?_; repeat constructor
      exact PX.cutEx ⟨hpl⟩ ⟨rfl, rfl, rfl, rfl, rfl, rfl, rfl, rfl, rfl, rfl, rfl, rfl, trivial⟩ (.i (by repeat constructor))
    have hh' : hasS e.set (s.getD k 0).toNat = true := by simpa using hh
    rw [hh', if_pos ⟨rfl, rfl⟩] at hpl
    refine .gr ?_; repeat constructor
    refine EL.move rfl rfl rfl ?_
    refine EL.assign rfl rfl rfl ?_
    refine .gr ?_; repeat constructor
    refine EL.move rfl rfl rfl ?_
    refine .gr ?_; repeat constructor
    refine ES.cond rfl (fun hf => ?_) (fun hf => ?_)
    · rw [if_pos hf] at hpl
      have hk2 : k = p.2 := by rw [hkb]; unfold bAt; exact if_pos hf
      subst hk2
      refine .gr ?_; repeat constructor
      refine EL.move rfl rfl rfl ?_
      refine EL.add1 rfl rfl rfl rfl (by omega) ?_
      refine EL.assign rfl rfl rfl ?_
      refine .gr ?_; repeat constructor
      exact PX.cutEn ⟨p.2 + 1, hpl⟩ ⟨rfl, rfl, rfl, rfl, rfl, rfl, rfl, rfl, rfl, rfl, rfl, rfl, rfl, rfl, trivial⟩ (.i (by repeat constructor))
    · rw [if_neg (by rw [hf]; simp)] at hpl
      have hk2 : k = p.2 - 1 := by rw [hkb]; unfold bAt; exact if_neg (by rw [hf]; simp)
      rw [← hk2] at hpl
      refine .gr ?_; repeat constructor
      exact PX.cutEn ⟨k, hpl⟩ ⟨rfl, rfl, rfl, rfl, rfl, rfl, rfl, rfl, rfl, rfl, rfl, rfl, rfl, rfl, trivial⟩ (.i (by repeat constructor))
  · obtain ⟨b, hb⟩ := b
    have hble := place_le pa hb
    have hix : e.to * (s.length + 1) + b < F0 := by omega
    have htl3 : sj.todo.length ≤ F0 := by simp only [FS.mu] at jmu; omega
    have hse : edgeM s fwd p.2 sj e = pushM s.length { sj with steps := sj.steps + cntM s.length fwd e p.2 } e.to b := by unfold edgeM; rw [hb]
    dsimp only
    refine .gr ?_; repeat constructor
    refine EL.fieldAddr rfl rfl rfl rfl rfl rfl rfl rfl ?_
    (apply EL.loadB; exact rfl; exact rfl; exact rfl; exact rfl; exact rfl; (case hm => repeat constructor); exact rfl)
    refine EL.move rfl rfl rfl ?_
    refine EL.add1 rfl rfl rfl rfl (by omega) ?_
    refine EL.mulN (m := e.to) rfl rfl rfl rfl rfl (by omega) ?_
    refine EL.move rfl rfl rfl ?_
    refine EL.addN rfl rfl rfl rfl rfl (by omega) ?_
    refine EL.assign rfl rfl rfl ?_
    refine .gr ?_; repeat constructor
    refine EL.move rfl rfl rfl ?_
    refine EL.move rfl rfl rfl ?_
    refine EL.indexAddrL1 rfl rfl rfl rfl rfl rfl rfl rfl (by omega) ?_
    refine EL.ofRV (RV.loadRm Value.bool false rfl rfl rfl (by repeat constructor) (by rw [jok.seen, ← hF0]; exact hix)) rfl rfl rfl (by intro c h; cases h) ?_
    refine EL.not rfl rfl rfl ?_
    refine .gr ?_; repeat constructor
    refine ES.cond rfl (fun hf => ?_) (fun hf => ?_)
    · have hns : sj.seen.getD (e.to * (s.length + 1) + b) false = false := by simpa using hf
      have hst : edgeM s fwd p.2 sj e = ⟨sj.marks, sj.seen.set (e.to * (s.length + 1) + b) true, sj.todo ++ [(e.to, b)], sj.steps + cntM s.length fwd e p.2⟩ := by
        rw [hse]; unfold pushM; rw [if_neg (by rw [hns]; simp)]
      rw [hst] at jgo hstep
      refine .gr ?_; repeat constructor
      refine EL.move rfl rfl rfl ?_
      refine EL.move rfl rfl rfl ?_
      refine EL.indexAddrL1 rfl rfl rfl rfl rfl rfl rfl rfl (by omega) ?_
      (refine EL.storeR rfl rfl rfl rfl rfl rfl (by repeat constructor) (by rw [List.length_map, jok.seen, ← hF0]; exact hix) ?_; refine EL.rowEq (v := .slice (some ⟨g34, 0, none⟩) F0 F0) (by repeat constructor) (List.map_set (f := Value.bool) (a := true)).symm ?_)
      refine .gr ?_; repeat constructor
      refine EL.move rfl rfl rfl ?_
      refine EL.fieldAddr rfl rfl rfl rfl rfl rfl rfl rfl ?_
      (apply EL.loadB; exact rfl; exact rfl; exact rfl; exact rfl; exact rfl; (case hm => repeat constructor); exact rfl)
      refine EL.move rfl rfl rfl ?_
      (apply EL.build2; exact rfl; exact rfl; exact rfl; exact rfl; exact rfl; exact rfl; exact rfl; exact rfl; exact rfl; exact rfl)
      (refine EL.buildSlice1 rfl rfl rfl rfl rfl rfl rfl rfl rfl rfl ?_; intro b147)
      (refine EL.append1 rfl rfl rfl rfl rfl rfl rfl rfl rfl (by repeat constructor) (by repeat constructor) (by first | (intro u hu; simp [Value.cells] at hu; subst hu; rfl) | exact all1 rfl) (by rfl) (by unfold maxLen; omega) (by first | omega | (show 1 * _ ≤ _; omega) | (show 8 * _ ≤ _; omega) | (show 16 * _ ≤ _; omega) | (show 24 * _ ≤ _; omega) | (show _ * 1 ≤ _; omega) | (show _ * 8 ≤ _; omega) | (show _ * 16 ≤ _; omega) | (show _ * 24 ≤ _; omega) | exact Nat.le_trans (Nat.mul_le_mul_right _ (show _ ≤ 1073741824 by omega)) (by decide)) ?_; intro a148 c148)
      refine EL.assign rfl rfl rfl ?_
      refine .gr ?_; repeat constructor
      refine EL.add1 rfl rfl rfl rfl (by omega) ?_
      refine EL.move rfl rfl rfl ?_
      refine .gr ?_; repeat constructor
      exact PX.loop ⟨i + 1, _, some ⟨a148, 0, none⟩, c148⟩ ⟨hlt', jgo, hstep.1, by rw [hstep.2.1]; exact jmu, by dsimp only; omega⟩ (by simp only; omega) ⟨rfl, rfl, rfl, rfl, rfl, rfl, rfl, getA rfl (by simp), rfl, rfl, rfl, rfl, trivial⟩ (by dsimp only; unfold TR; rw [List.length_append, prsC_snoc]; exact (.i (by repeat constructor)))
    · have hys : sj.seen.getD (e.to * (s.length + 1) + b) false = true := by simpa using hf
      have hst : edgeM s fwd p.2 sj e = { sj with steps := sj.steps + cntM s.length fwd e p.2 } := by
        rw [hse]; unfold pushM; rw [if_pos (by exact hys)]
      rw [hst] at jgo hstep
      refine .gr ?_; repeat constructor
      refine EL.add1 rfl rfl rfl rfl (by omega) ?_
      refine EL.move rfl rfl rfl ?_
      refine .gr ?_; repeat constructor
      exact PX.loop ⟨i + 1, _, jad, jcap⟩ ⟨hlt', jgo, hstep.1, by rw [hstep.2.1]; exact jmu, by dsimp only; omega⟩ (by simp only; omega) ⟨rfl, rfl, rfl, rfl, rfl, rfl, rfl, rfl, rfl, rfl, rfl, rfl, trivial⟩ (.i (by repeat constructor))
  · have hst : edgeM s fwd p.2 sj e = { sj with steps := sj.steps + cntM s.length fwd e p.2 } := by unfold edgeM; rw [y.down]
    rw [hst] at jgo hstep
    refine .gr ?_; repeat constructor
    refine .gr ?_; repeat constructor
    refine EL.add1 rfl rfl rfl rfl (by omega) ?_
    refine EL.move rfl rfl rfl ?_
    refine .gr ?_; repeat constructor
    exact PX.loop ⟨i + 1, _, jad, jcap⟩ ⟨hlt', jgo, hstep.1, by rw [hstep.2.1]; exact jmu, by dsimp only; omega⟩ (by simp only; omega) ⟨rfl, rfl, rfl, rfl, rfl, rfl, rfl, rfl, rfl, rfl, rfl, rfl, trivial⟩ (.i (by repeat constructor))
end Go.Proofs.Ytblpgpgbnlhjlaa
namespace Go.Proofs.Ytblpgpgbnlhjlaa
open Go Go.RowKit Sl
set_option maxRecDepth 100000
set_option maxHeartbeats 8000000
set_option linter.unusedVariables false
set_option linter.unusedSimpArgs false
attribute [local irreducible] ES EL PX wps

/-! what is left of a repeat -/
abbrev leftLo (lo : Nat) (k : RE) (times : Nat) : Nat := leastM lo k - times
def leftM (lo : Nat) (hi : Int) (k : RE) (times : Nat) : RE := .rep (leftLo lo k times) (if 0 ≤ hi then max ((leftLo lo k times : Nat) : Int) (hi - times) else -1) k
theorem left_c (lo : Nat) (hi : Int) (k : RE) (hf : (RE.rep lo hi k).fine) (times : Nat) (ht : times ≤ 1073741824) (g off : Nat) (ad : Option Addr) (cap : Nat) (w : World) (hn : NodeRd w w.heap.size g off (.rep lo hi k)) (hrd : Rd w w.heap.size (some ⟨g, off, none⟩) (reCells (.rep lo hi k) (.slice ad 1 cap))) :
    Pure Try.prog 93 #[Pv g off, Iv (times : Nat)] (fun _ : Unit => .agg (reCells (leftM lo hi k times) (.slice ad 1 cap)).toArray) (fun _ => []) w := by
  have hlo := hf.1
  have hle := least_le lo k
  have hh := hf.2.1
  have hh2 := hf.2.2.1
  obtain ⟨m, hm⟩ : ∃ m, m = leastM lo k := ⟨_, rfl⟩
  obtain ⟨l, hl⟩ : ∃ l, l = leftLo lo k times := ⟨_, rfl⟩
  have hlm : l = m - times := by rw [hl, hm]
  rw [← hm] at hle
  have hmx : max 0 ((m : Int) - (times : Int)) = ((l : Nat) : Int) := by omega
  have hlm2 : leftM lo hi k times = .rep l (if 0 ≤ hi then max ((l : Nat) : Int) (hi - times) else -1) k := by rw [hl]; rfl
  rw [hlm2]
  refine calls_of_ES TB Try.func93 rfl _ Try.ntmps93 rfl (Sat.start w) ?_
  refine .gr ?_; repeat constructor
  (refine EL.alloc rfl rfl rfl ?_; intro g4)
  refine .gr ?_; repeat constructor
  refine ES.draw (X := Nat) (fun g5 => [(0, Pv g off), (1, Iv (times : Nat)), (4, Pv g4 0), (5, Pv g5 0)]) (fun g5 => HA.blk g5 (.cells #[Iv 5, Wv 0, Wv 0, Wv 0, Wv 0, Iv (max 0 ((m : Int) - (times : Int))), Iv (-1), Iv 0, .slice ad 1 cap] 82) :: HA.blk g4 (.cells zeroRe 82) :: []) [] mixed (.i (by repeat constructor)) ?_ (fun g5 => ?_)
  · refine ED.take 0 rfl (by decide +kernel) CutX.no_panic (by decide +kernel) rfl rfl rfl (RV.move rfl) ?_
    refine ED.take 2 rfl (by decide +kernel) CutX.no_panic (by decide +kernel) rfl rfl rfl (RV.move rfl) ?_
    refine ED.take 5 rfl (by decide +kernel) CutX.no_panic (by decide +kernel) rfl rfl rfl (RV.move rfl) ?_
    refine ED.take 6 rfl (by decide +kernel) CutX.no_panic (by decide +kernel) rfl rfl rfl (RV.nilCheck rfl) ?_
    refine ED.take 7 rfl (by decide +kernel) CutX.no_panic (by decide +kernel) rfl rfl rfl (RV.fieldAddr rfl rfl rfl rfl rfl rfl) ?_
    refine ED.take 8 rfl (by decide +kernel) CutX.no_panic (by decide +kernel) rfl rfl rfl (RV.loadOld rfl rfl rfl hrd rfl) ?_
    refine ED.fork 1 [10] (by decide +kernel) ⟨⟨_, rfl, ?_⟩, ⟨_, rfl, ?_⟩, trivial⟩
    · (refine EL.callPw rfl rfl rfl ent82 rfl (fun w hs => least_c lo hi k hf g off w (NodeRd.sat hn hs)) ?_; rw [← hm])
      refine ED.next (.i (by repeat constructor)) ?_
      refine ED.take 3 rfl (by decide +kernel) CutX.no_panic (by decide +kernel) rfl rfl rfl (RV.sub_ ((m : Int) - (times : Int)) rfl rfl (wrap_i64 _ (by omega) (by omega))) ?_
      refine ED.take 4 rfl (by decide +kernel) CutX.no_panic (by decide +kernel) rfl rfl rfl (RV.maxI rfl rfl) ?_
      refine ED.take 9 rfl (by decide +kernel) CutX.no_panic (by decide +kernel) rfl rfl rfl (RV.buildS #[Iv 5, Wv 0, Wv 0, Wv 0, Wv 0, Iv (max 0 ((m : Int) - (times : Int))), Iv (-1), Iv 0, .slice ad 1 cap] rfl rfl rfl rfl (by kernel_rfl)) ?_
      refine ED.loud 10 rfl (by decide +kernel) ?_
      (refine EL.alloc rfl rfl rfl ?_; intro g5)
      refine ED.next (.i (by repeat constructor)) ?_
      refine ED.last 11 rfl (by decide +kernel) (by decide +kernel) (by decide +kernel) ?_
      (apply EL.storeAll; exact rfl; exact rfl; exact rfl; exact rfl; exact rfl; (case p => repeat constructor); exact rfl; (case h1 => exact (by first | rfl | exact all1 rfl | (intro u hu; simp only [List.mem_cons, List.not_mem_nil, or_false] at hu; rcases hu with rfl | rfl | rfl | rfl <;> rfl) | (intro u hu; simp at hu; rcases hu with rfl | rfl | rfl | rfl <;> rfl) | (intro u hu; simp at hu; rcases hu with rfl | rfl | rfl <;> rfl) | (intro u hu; simp at hu; rcases hu with rfl | rfl <;> rfl) | (intro u hu; simp at hu; obtain ⟨_, _, rfl⟩ := hu; rfl))))
      refine EL.endQ ?_
      exact PX.cutX g5 ⟨rfl, rfl, rfl, rfl, trivial⟩ (.i (by repeat constructor))
    · (refine EL.alloc rfl rfl rfl ?_; intro g5)
      refine ED.next (.i (by repeat constructor)) ?_
      refine ED.loud 1 rfl (by decide +kernel) ?_
      (refine EL.callPw rfl rfl rfl ent82 rfl (fun w hs => least_c lo hi k hf g off w (NodeRd.sat hn hs)) ?_; rw [← hm])
      refine ED.next (.i (by repeat constructor)) ?_
      refine ED.take 3 rfl (by decide +kernel) CutX.no_panic (by decide +kernel) rfl rfl rfl (RV.sub_ ((m : Int) - (times : Int)) rfl rfl (wrap_i64 _ (by omega) (by omega))) ?_
      refine ED.take 4 rfl (by decide +kernel) CutX.no_panic (by decide +kernel) rfl rfl rfl (RV.maxI rfl rfl) ?_
      refine ED.take 9 rfl (by decide +kernel) CutX.no_panic (by decide +kernel) rfl rfl rfl (RV.buildS #[Iv 5, Wv 0, Wv 0, Wv 0, Wv 0, Iv (max 0 ((m : Int) - (times : Int))), Iv (-1), Iv 0, .slice ad 1 cap] rfl rfl rfl rfl (by kernel_rfl)) ?_
      refine ED.last 11 rfl (by decide +kernel) (by decide +kernel) (by decide +kernel) ?_
      (apply EL.storeAll; exact rfl; exact rfl; exact rfl; exact rfl; exact rfl; (case p => repeat constructor); exact rfl; (case h1 => exact (by first | rfl | exact all1 rfl | (intro u hu; simp only [List.mem_cons, List.not_mem_nil, or_false] at hu; rcases hu with rfl | rfl | rfl | rfl <;> rfl) | (intro u hu; simp at hu; rcases hu with rfl | rfl | rfl | rfl <;> rfl) | (intro u hu; simp at hu; rcases hu with rfl | rfl | rfl <;> rfl) | (intro u hu; simp at hu; rcases hu with rfl | rfl <;> rfl) | (intro u hu; simp at hu; obtain ⟨_, _, rfl⟩ := hu; rfl))))
      refine EL.endQ ?_
      exact PX.cutX g5 ⟨rfl, rfl, rfl, rfl, trivial⟩ (.i (by repeat constructor))
  rw [hmx]
  refine .gr ?_; repeat constructor
  refine EL.move rfl rfl rfl ?_
  refine EL.nilCheck rfl rfl rfl ?_
  refine EL.fieldAddr rfl rfl rfl rfl rfl rfl rfl rfl ?_
  refine EL.loadOld rfl rfl rfl rfl rfl hrd rfl ?_
  refine EL.geq rfl rfl rfl rfl ?_
  refine .gr ?_; repeat constructor
  refine ES.condD rfl (fun hge => ?_) (fun hlt => ?_)
  · have hge' : 0 ≤ hi := hge
    rw [if_pos hge']
    refine .gs ?_; repeat constructor
    refine ES.draw (X := Unit) (fun _ => [(4, Pv g4 0), (5, Pv g5 0)]) (fun _ => HA.blk g5 (.cells (reCells (.rep l (max ((l : Nat) : Int) (hi - times)) k) (.slice ad 1 cap)).toArray 82) :: HA.blk g4 (.cells zeroRe 82) :: []) (HA.blk g5 (.cells #[Iv 5, Wv 0, Wv 0, Wv 0, Wv 0, Iv (l : Nat), Iv (-1), Iv 0, .slice ad 1 cap] 82) :: []) mixed (.i (by repeat constructor)) ?_ (fun _ => ?_)
    · refine ED.take 0 rfl (by decide +kernel) CutX.no_panic (by decide +kernel) rfl rfl rfl (RV.fieldAddr rfl rfl rfl rfl rfl rfl) ?_
      refine ED.take 1 rfl (by decide +kernel) CutX.no_panic (by decide +kernel) rfl rfl rfl (RV.loadB rfl rfl rfl (by repeat constructor) rfl) ?_
      refine ED.take 2 rfl (by decide +kernel) CutX.no_panic (by decide +kernel) rfl rfl rfl (RV.move rfl) ?_
      refine ED.take 3 rfl (by decide +kernel) CutX.no_panic (by decide +kernel) rfl rfl rfl (RV.nilCheck rfl) ?_
      refine ED.take 4 rfl (by decide +kernel) CutX.no_panic (by decide +kernel) rfl rfl rfl (RV.fieldAddr rfl rfl rfl rfl rfl rfl) ?_
      refine ED.take 5 rfl (by decide +kernel) CutX.no_panic (by decide +kernel) rfl rfl rfl (RV.loadOld rfl rfl rfl hrd rfl) ?_
      refine ED.take 6 rfl (by decide +kernel) CutX.no_panic (by decide +kernel) rfl rfl rfl (RV.move rfl) ?_
      refine ED.take 7 rfl (by decide +kernel) CutX.no_panic (by decide +kernel) rfl rfl rfl (RV.sub_ (hi - (times : Int)) rfl rfl (wrap_i64 _ (by simp only [RE.hi]; omega) (by simp only [RE.hi]; omega))) ?_
      refine ED.take 8 rfl (by decide +kernel) CutX.no_panic (by decide +kernel) rfl rfl rfl (RV.maxI rfl rfl) ?_
      refine ED.take 9 rfl (by decide +kernel) CutX.no_panic (by decide +kernel) rfl rfl rfl (RV.fieldAddr rfl rfl rfl rfl rfl rfl) ?_
      refine ED.last 10 rfl (by decide +kernel) (by decide +kernel) (by decide +kernel) ?_
      (apply EL.storeB; exact rfl; exact rfl; exact rfl; exact rfl; exact rfl; exact rfl; (case p => repeat constructor); exact (by first | decide | exact Nat.le_of_ble_eq_true rfl | simp))
      refine EL.endQ ?_
      exact PX.cutX () ⟨rfl, rfl, trivial⟩ (.i (by repeat constructor))
    refine .gr ?_; repeat constructor
    (apply EL.loadAggB; exact rfl; exact rfl; exact rfl; exact rfl; exact rfl; (case hm => repeat constructor); exact rfl)
    (apply EL.storeAll; exact rfl; exact rfl; exact rfl; exact rfl; exact rfl; (case p => repeat constructor); exact rfl; (case h1 => exact (by first | rfl | exact all1 rfl | (intro u hu; simp only [List.mem_cons, List.not_mem_nil, or_false] at hu; rcases hu with rfl | rfl | rfl | rfl <;> rfl) | (intro u hu; simp at hu; rcases hu with rfl | rfl | rfl | rfl <;> rfl) | (intro u hu; simp at hu; rcases hu with rfl | rfl | rfl <;> rfl) | (intro u hu; simp at hu; rcases hu with rfl | rfl <;> rfl) | (intro u hu; simp at hu; obtain ⟨_, _, rfl⟩ := hu; rfl))))
    refine .gr ?_; repeat constructor
    exact PX.ret rfl Try.results93 (.cons (.blkA rfl rfl rfl (by repeat constructor) rfl) .nil) (fun w hs => ⟨(), rfl, hs.ent (.i (by repeat constructor))⟩)
  · have hlt' : ¬ 0 ≤ hi := hlt
    rw [if_neg hlt']
    refine .gr ?_; repeat constructor
    refine .gr ?_; repeat constructor
    (apply EL.loadAggB; exact rfl; exact rfl; exact rfl; exact rfl; exact rfl; (case hm => repeat constructor); exact rfl)
    (apply EL.storeAll; exact rfl; exact rfl; exact rfl; exact rfl; exact rfl; (case p => repeat constructor); exact rfl; (case h1 => exact (by first | rfl | exact all1 rfl | (intro u hu; simp only [List.mem_cons, List.not_mem_nil, or_false] at hu; rcases hu with rfl | rfl | rfl | rfl <;> rfl) | (intro u hu; simp at hu; rcases hu with rfl | rfl | rfl | rfl <;> rfl) | (intro u hu; simp at hu; rcases hu with rfl | rfl | rfl <;> rfl) | (intro u hu; simp at hu; rcases hu with rfl | rfl <;> rfl) | (intro u hu; simp at hu; obtain ⟨_, _, rfl⟩ := hu; rfl))))
    refine .gr ?_; repeat constructor
    exact PX.ret rfl Try.results93 (.cons (.blkA rfl rfl rfl (by repeat constructor) rfl) .nil) (fun w hs => ⟨(), rfl, hs.ent (.i (by repeat constructor))⟩)
end Go.Proofs.Ytblpgpgbnlhjlaa
namespace Go.Proofs.Ytblpgpgbnlhjlaa
open Go Go.RowKit Sl
set_option maxRecDepth 100000
set_option maxHeartbeats 8000000
set_option linter.unusedVariables false
set_option linter.unusedSimpArgs false
attribute [local irreducible] ES EL PX wps

theorem edge_steps (s : List UInt8) (fwd : Bool) (a : Nat) (st : FS) (e : Ed) : (edgeM s fwd a st e).steps = st.steps + cntM s.length fwd e a := by
  unfold edgeM
  split
  · rfl
  · unfold pushM; split <;> rfl
theorem edges_steps (s : List UInt8) (fwd : Bool) (a : Nat) : ∀ (es : List Ed) (st : FS), (es.foldl (edgeM s fwd a) st).steps ≤ st.steps + es.length
  | [], st => Nat.le_refl _
  | e :: es, st => by
    have h1 := edges_steps s fwd a es (edgeM s fwd a st e)
    have h2 := edge_steps s fwd a st e
    have h3 := cnt_le s.length fwd e a
    simp only [List.foldl_cons, List.length_cons]; omega
theorem flood_steps {es : List (List Ed)} {M : Nat} (hM : ∀ l ∈ es, l.length ≤ M) (s : List UInt8) (goal : Nat) (fwd : Bool) : ∀ (f : Nat) (st : FS), (floodGo es s goal fwd f st).steps ≤ st.steps + f * M
  | 0, st => by rw [floodGo]; omega
  | f + 1, st => by
    rw [floodGo]
    split
    · omega
    · rename_i p hp
      have h1 := flood_steps hM s goal fwd f ((es.getD p.1 []).foldl (edgeM s fwd p.2) (popM goal st p))
      have h2 := edges_steps s fwd p.2 (es.getD p.1 []) (popM goal st p)
      have h3 : (popM goal st p).steps = st.steps := rfl
      have h4 : (es.getD p.1 []).length ≤ M := by
        rw [List.getD_eq_getElem?_getD]
        cases hg : es[p.1]? with
        | none => simp
        | some l => exact hM l (List.mem_of_getElem? hg)
      rw [Nat.succ_mul]; omega
theorem floodM_steps {es : List (List Ed)} (hN : es.length ≤ 131072) (hM : ∀ l ∈ es, l.length ≤ 131072) (s : List UInt8) (hs : s.length ≤ 1024) (p : Nat × Nat) (goal : Nat) (fwd : Bool) (st : Nat) : (floodM es s p goal fwd st).steps ≤ st + 131072 * 1025 * 131072 := by
  have h1 := flood_steps hM s goal fwd (es.length * (s.length + 1)) (fs0 es.length s.length p st)
  have h2 : es.length * (s.length + 1) * 131072 ≤ 131072 * 1025 * 131072 := Nat.mul_le_mul_right _ (Nat.mul_le_mul hN (by omega))
  have h3 : (fs0 es.length s.length p st).steps = st := rfl
  unfold floodM
  omega
theorem make_room (ks : List RE) (h : costL ks + 1 ≤ 131072) : (makeM ks).1.Room 0 ∧ (makeM ks).2 < (makeM ks).1.out.length := by
  have h0 : AM.Room ⟨[], []⟩ (costL ks + 1) := am0_room h
  have h1 := layL_room ks _ 0 0 (add_room h0) (by rw [add_len]; simp)
  exact ⟨h1.1, h1.2.1⟩
def endsM (A : AM × Nat) (s : List UInt8) (i st : Nat) : FS := floodM A.1.out s (0, i) A.2 true st
def startsM (A : AM × Nat) (s : List UInt8) (j st : Nat) : FS := floodM A.1.back s (A.2, j) 0 false st
theorem ends_c (gs : Nat) (s : List UInt8) (hs : s.length ≤ 1024) (st0 : Nat) (hst0 : st0 ≤ 1152921504606846976) (rest : List Value) (ty : TypeId) (ga : Nat) (A : AM × Nat) (x : AX A.1) (hr : A.1.Room 0) (he : A.2 < A.1.out.length) (i : Nat) (hi : i ≤ s.length) :
    Mut Try.prog 64 #[Pv gs 0, Pv ga 0, Iv (i : Nat)] [WB gs s st0 rest ty, AP ga x.1 A.2] (fun g : Nat => .slice (some ⟨g, 0, none⟩) (s.length + 1) (s.length + 1))
      (fun g => [BR g (s.length + 1) (endsM A s i st0).marks, WB gs s (endsM A s i st0).steps rest ty, AP ga x.1 A.2]) := by
  intro w0 B R w h
  obtain ⟨a, en⟩ := A
  obtain ⟨⟨oad, ocap, bad, bcap, ps, qs⟩, hv⟩ := x
  obtain ⟨ho, hb⟩ := id hv
  dsimp only at ho hb hr he ⊢
  have hout := hr.out
  have hro := hr.ro
  have hfc := flood_c gs s hs st0 hst0 rest ty a.out hr.eo (by omega) (fun l hl => by have := hro l hl; omega) ps ho oad ocap (0, i) (by show 0 < _; omega) hi en true
  replace h : Sat w0 B (AH ga ⟨oad, ocap, bad, bcap, ps, qs⟩ en ++ (WB gs s st0 rest ty :: R)) w := Sat.unpack (h.ent (.i (by repeat constructor)))
  replace h : Sat w0 B (HA.blk ga (.cells #[.slice oad ps.length ocap, .slice bad qs.length bcap, Iv (en : Nat)] 163) :: WB gs s st0 rest ty :: OR oad ocap ps :: HA.edg ps :: OR bad bcap qs :: HA.edg qs :: R) w := h.ent (.i (by repeat constructor))
  unfold endsM
  dsimp only
  generalize floodM a.out s (0, i) en true st0 = r at hfc
  refine calls_of_ES TB Try.func64 rfl _ Try.ntmps64 rfl h ?_
  refine .gr ?_; repeat constructor
  refine EL.assign rfl rfl rfl ?_
  refine .gr ?_; repeat constructor
  refine ES.draw (X := Nat) (fun g => [(6, .slice (some ⟨g, 0, none⟩) (s.length + 1) (s.length + 1))]) (fun g => BR g (s.length + 1) r.marks :: WB gs s r.steps rest ty :: HA.blk ga (.cells #[.slice oad ps.length ocap, .slice bad qs.length bcap, Iv (en : Nat)] 163) :: OR oad ocap ps :: HA.edg ps :: OR bad bcap qs :: HA.edg qs :: R)
    (HA.blk ga (.cells #[.slice oad ps.length ocap, .slice bad qs.length bcap, Iv (en : Nat)] 163) :: []) mixed (.i (by repeat constructor)) ?_ (fun g => ?_)
  · refine ED.take 0 rfl (by decide +kernel) CutX.no_panic (by decide +kernel) rfl rfl rfl (RV.move rfl) ?_
    refine ED.take 1 rfl (by decide +kernel) CutX.no_panic (by decide +kernel) rfl rfl rfl (RV.move rfl) ?_
    refine ED.take 2 rfl (by decide +kernel) CutX.no_panic (by decide +kernel) rfl rfl rfl (RV.nilCheck rfl) ?_
    refine ED.take 3 rfl (by decide +kernel) CutX.no_panic (by decide +kernel) rfl rfl rfl (RV.fieldAddr rfl rfl rfl rfl rfl rfl) ?_
    refine ED.take 4 rfl (by decide +kernel) CutX.no_panic (by decide +kernel) rfl rfl rfl (RV.loadB rfl rfl rfl (by repeat constructor) rfl) ?_
    refine ED.take 5 rfl (by decide +kernel) CutX.no_panic (by decide +kernel) rfl rfl rfl (RV.move rfl) ?_
    refine ED.take 6 rfl (by decide +kernel) CutX.no_panic (by decide +kernel) rfl rfl rfl (RV.buildS #[Iv 0, Iv (i : Nat)] rfl rfl rfl rfl (by kernel_rfl)) ?_
    refine ED.take 7 rfl (by decide +kernel) CutX.no_panic (by decide +kernel) rfl rfl rfl (RV.move rfl) ?_
    refine ED.take 8 rfl (by decide +kernel) CutX.no_panic (by decide +kernel) rfl rfl rfl (RV.nilCheck rfl) ?_
    refine ED.take 9 rfl (by decide +kernel) CutX.no_panic (by decide +kernel) rfl rfl rfl (RV.fieldAddr rfl rfl rfl rfl rfl rfl) ?_
    refine ED.take 10 rfl (by decide +kernel) CutX.no_panic (by decide +kernel) rfl rfl rfl (RV.loadB rfl rfl rfl (by repeat constructor) rfl) ?_
    refine ED.loud 11 rfl (by decide +kernel) ?_
    (refine EL.callM rfl rfl rfl ent87 rfl hfc (by repeat constructor) ?_; intro g)
    refine ED.next (.i (by repeat constructor)) ?_
    refine ED.take 12 rfl (by decide +kernel) CutX.no_panic (by decide +kernel) rfl rfl rfl (RV.assign rfl) ?_
    refine ED.done (by decide +kernel) ?_
    exact PX.cutX g ⟨rfl, trivial⟩ (.i (by repeat constructor))
  refine .gr ?_; repeat constructor
  refine PX.ret rfl Try.results64 (.cons (.tmp rfl) .nil) (fun w hs => ⟨g, rfl, ?_⟩)
  have k1 := Sat.pack (Hs := AH ga ⟨oad, ocap, bad, bcap, ps, qs⟩ en) (hs.ent (H' := AH ga ⟨oad, ocap, bad, bcap, ps, qs⟩ en ++ (BR g (s.length + 1) r.marks :: WB gs s r.steps rest ty :: R)) (.i (by repeat constructor)))
  exact k1.ent (.i (by repeat constructor))
theorem starts_c (gs : Nat) (s : List UInt8) (hs : s.length ≤ 1024) (st0 : Nat) (hst0 : st0 ≤ 1152921504606846976) (rest : List Value) (ty : TypeId) (ga : Nat) (A : AM × Nat) (x : AX A.1) (hr : A.1.Room 0) (he : A.2 < A.1.out.length) (j : Nat) (hj : j ≤ s.length) :
    Mut Try.prog 104 #[Pv gs 0, Pv ga 0, Iv (j : Nat)] [WB gs s st0 rest ty, AP ga x.1 A.2] (fun g : Nat => .slice (some ⟨g, 0, none⟩) (s.length + 1) (s.length + 1))
      (fun g => [BR g (s.length + 1) (startsM A s j st0).marks, WB gs s (startsM A s j st0).steps rest ty, AP ga x.1 A.2]) := by
  intro w0 B R w h
  obtain ⟨a, en⟩ := A
  obtain ⟨⟨oad, ocap, bad, bcap, ps, qs⟩, hv⟩ := x
  obtain ⟨ho, hb⟩ := id hv
  dsimp only at ho hb hr he ⊢
  have hout := hr.out
  have hsame := hr.same
  have hrb := hr.rb
  have hfc := flood_c gs s hs st0 hst0 rest ty a.back hr.eb (by omega) (fun l hl => by have := hrb l hl; omega) qs hb bad bcap (en, j) (by show en < _; omega) hj 0 false
  replace h : Sat w0 B (AH ga ⟨oad, ocap, bad, bcap, ps, qs⟩ en ++ (WB gs s st0 rest ty :: R)) w := Sat.unpack (h.ent (.i (by repeat constructor)))
  replace h : Sat w0 B (HA.blk ga (.cells #[.slice oad ps.length ocap, .slice bad qs.length bcap, Iv (en : Nat)] 163) :: WB gs s st0 rest ty :: OR oad ocap ps :: HA.edg ps :: OR bad bcap qs :: HA.edg qs :: R) w := h.ent (.i (by repeat constructor))
  unfold startsM
  dsimp only
  generalize floodM a.back s (en, j) 0 false st0 = r at hfc
  refine calls_of_ES TB Try.func104 rfl _ Try.ntmps104 rfl h ?_
  refine .gr ?_; repeat constructor
  refine EL.assign rfl rfl rfl ?_
  refine .gr ?_; repeat constructor
  refine ES.draw (X := Nat) (fun g => [(6, .slice (some ⟨g, 0, none⟩) (s.length + 1) (s.length + 1))]) (fun g => BR g (s.length + 1) r.marks :: WB gs s r.steps rest ty :: HA.blk ga (.cells #[.slice oad ps.length ocap, .slice bad qs.length bcap, Iv (en : Nat)] 163) :: OR oad ocap ps :: HA.edg ps :: OR bad bcap qs :: HA.edg qs :: R)
    (HA.blk ga (.cells #[.slice oad ps.length ocap, .slice bad qs.length bcap, Iv (en : Nat)] 163) :: []) mixed (.i (by repeat constructor)) ?_ (fun g => ?_)
  · refine ED.take 0 rfl (by decide +kernel) CutX.no_panic (by decide +kernel) rfl rfl rfl (RV.move rfl) ?_
    refine ED.take 1 rfl (by decide +kernel) CutX.no_panic (by decide +kernel) rfl rfl rfl (RV.move rfl) ?_
    refine ED.take 2 rfl (by decide +kernel) CutX.no_panic (by decide +kernel) rfl rfl rfl (RV.nilCheck rfl) ?_
    refine ED.take 3 rfl (by decide +kernel) CutX.no_panic (by decide +kernel) rfl rfl rfl (RV.fieldAddr rfl rfl rfl rfl rfl rfl) ?_
    refine ED.take 4 rfl (by decide +kernel) CutX.no_panic (by decide +kernel) rfl rfl rfl (RV.loadB rfl rfl rfl (by repeat constructor) rfl) ?_
    refine ED.take 5 rfl (by decide +kernel) CutX.no_panic (by decide +kernel) rfl rfl rfl (RV.move rfl) ?_
    refine ED.take 6 rfl (by decide +kernel) CutX.no_panic (by decide +kernel) rfl rfl rfl (RV.nilCheck rfl) ?_
    refine ED.take 7 rfl (by decide +kernel) CutX.no_panic (by decide +kernel) rfl rfl rfl (RV.fieldAddr rfl rfl rfl rfl rfl rfl) ?_
    refine ED.take 8 rfl (by decide +kernel) CutX.no_panic (by decide +kernel) rfl rfl rfl (RV.loadB rfl rfl rfl (by repeat constructor) rfl) ?_
    refine ED.take 9 rfl (by decide +kernel) CutX.no_panic (by decide +kernel) rfl rfl rfl (RV.move rfl) ?_
    refine ED.take 10 rfl (by decide +kernel) CutX.no_panic (by decide +kernel) rfl rfl rfl (RV.buildS #[Iv (en : Nat), Iv (j : Nat)] rfl rfl rfl rfl (by kernel_rfl)) ?_
    refine ED.loud 11 rfl (by decide +kernel) ?_
    (refine EL.callM rfl rfl rfl ent87 rfl hfc (by repeat constructor) ?_; intro g)
    refine ED.next (.i (by repeat constructor)) ?_
    refine ED.take 12 rfl (by decide +kernel) CutX.no_panic (by decide +kernel) rfl rfl rfl (RV.assign rfl) ?_
    refine ED.done (by decide +kernel) ?_
    exact PX.cutX g ⟨rfl, trivial⟩ (.i (by repeat constructor))
  refine .gr ?_; repeat constructor
  refine PX.ret rfl Try.results104 (.cons (.tmp rfl) .nil) (fun w hs => ⟨g, rfl, ?_⟩)
  have k1 := Sat.pack (Hs := AH ga ⟨oad, ocap, bad, bcap, ps, qs⟩ en) (hs.ent (H' := AH ga ⟨oad, ocap, bad, bcap, ps, qs⟩ en ++ (BR g (s.length + 1) r.marks :: WB gs s r.steps rest ty :: R)) (.i (by repeat constructor)))
  exact k1.ent (.i (by repeat constructor))
/-- From i + n - 1 down to i. -/
def dnL (i : Nat) : Nat → List Nat
  | 0 => []
  | n + 1 => (i + n) :: dnL i n
def splE (s : List UInt8) (hd : List RE) (i st : Nat) : FS := endsM (makeM hd) s i st
def splS (s : List UInt8) (hd tl : List RE) (i j st : Nat) : FS := startsM (makeM tl) s j (splE s hd i st).steps
def splL (s : List UInt8) (hd tl : List RE) (i j st : Nat) : List Nat := (dnL i (j + 1 - i)).filter fun p => (splE s hd i st).marks.getD p false && (splS s hd tl i j st).marks.getD p false
abbrev IR (ad : Option Addr) (cap : Nat) (l : List Nat) : HA := HA.row (.slice ad l.length cap) 3 1 l.length (l.map fun z : Nat => Iv (z : Nat))
structure SPL where
  n : Nat
  l : List Nat
  ad : Option Addr
  cap : Nat
/-- Trees that can be read while T is owned. -/
abbrev RowRd (w0 : World) (B : Nat) (T : HA) (ad : Option Addr) (ks : List RE) : Prop := ∀ (w : World) (H : List HA), Sat w0 B (T :: H) w → ∀ i k, ks[i]? = some k → ∃ g o, ad = some ⟨g, o, none⟩ ∧ NodeRd w w.heap.size g (o + i * 9) k
theorem flood_len {es : List (List Ed)} (hes : EdsOk es) (s : List UInt8) {x0 : Nat × Nat} (h1 : x0.1 < es.length) (h2 : x0.2 ≤ s.length) (goal : Nat) (fwd : Bool) (st0 : Nat) : (floodM es s x0 goal fwd st0).marks.length = s.length + 1 := by
  obtain ⟨_, h⟩ := flood_spec hes s h1 h2 goal fwd st0
  exact h.len
theorem splits_c (gs : Nat) (s : List UInt8) (hs : s.length ≤ 1024) (st0 : Nat) (hst0 : st0 ≤ 576460752303423488) (rest : List Value) (ty : TypeId) (hd tl : List RE) (hdf : ∀ k ∈ hd, k.fine) (tlf : ∀ k ∈ tl, k.fine) (hdl : hd.length ≤ 1024) (tll : tl.length ≤ 1024) (hdc : costL hd + 1 ≤ 131072) (tlc : costL tl + 1 ≤ 131072)
    (had tad : Option Addr) (hcap tcap : Nat) (i j : Nat) (hij : i ≤ j) (hj : j ≤ s.length) (w0 : World) (B : Nat) (T : HA) (hh : RowRd w0 B T had hd) (ht : RowRd w0 B T tad tl) :
    MutAt Try.prog 92 #[Pv gs 0, .slice had hd.length hcap, .slice tad tl.length tcap, Iv (i : Nat), Iv (j : Nat)] [WB gs s st0 rest ty, T] (fun z : Option Addr × Nat => .slice z.1 (splL s hd tl i j st0).length z.2)
      (fun z => [IR z.1 z.2 (splL s hd tl i j st0), WB gs s (splS s hd tl i j st0).steps rest ty, T]) w0 B := by
  intro R w h
  replace h : Sat w0 B (WB gs s st0 rest ty :: T :: R) w := h
  have hi : i ≤ s.length := by omega
  obtain ⟨hr1, he1⟩ := make_room hd hdc
  obtain ⟨hr2, he2⟩ := make_room tl tlc
  have hE : (splE s hd i st0).steps ≤ 1152921504606846976 := by
    have := floodM_steps (es := (makeM hd).1.out) (by have := hr1.out; omega) (fun l hl => by have := hr1.ro l hl; omega) s hs (0, i) (makeM hd).2 true st0
    unfold splE endsM
    omega
  have hL : splL s hd tl i j st0 = (dnL i (j + 1 - i)).filter fun p => (splE s hd i st0).marks.getD p false && (splS s hd tl i j st0).marks.getD p false := rfl
  have hl1 : (splE s hd i st0).marks.length = s.length + 1 := flood_len hr1.eo s (by show 0 < _; omega) hi _ _ _
  have hl2 : (splS s hd tl i j st0).marks.length = s.length + 1 := flood_len hr2.eb s (by show (makeM tl).2 < _; rw [hr2.same]; exact he2) hj _ _ _
  have hec := fun ga (x : AX (makeM hd).1) => ends_c gs s hs st0 (by omega) rest ty ga (makeM hd) x hr1 he1 i hi
  have hsc := fun ga (x : AX (makeM tl).1) => starts_c gs s hs (splE s hd i st0).steps hE rest ty ga (makeM tl) x hr2 he2 j hj
  change ∀ (ga : Nat) (x : AX (makeM hd).1), Mut _ _ _ _ _ (fun g => [BR g (s.length + 1) (splE s hd i st0).marks, WB gs s (splE s hd i st0).steps rest ty, AP ga x.1 (makeM hd).2]) at hec
  change ∀ (ga : Nat) (x : AX (makeM tl).1), Mut _ _ _ _ _ (fun g => [BR g (s.length + 1) (splS s hd tl i j st0).marks, WB gs s (splS s hd tl i j st0).steps rest ty, AP ga x.1 (makeM tl).2]) at hsc
  generalize splS s hd tl i j st0 = FSs at *
  generalize splE s hd i st0 = FE at *
  generalize splL s hd tl i j st0 = L at *
  refine calls_of_ES TB Try.func92 rfl _ Try.ntmps92 rfl h ?_
  refine .gr ?_; repeat constructor
  refine EL.assign rfl rfl rfl ?_
  refine .gr ?_; repeat constructor
  refine .gr ?_; repeat constructor
  refine EL.move rfl rfl rfl ?_
  refine EL.move rfl rfl rfl ?_
  (refine EL.callXw rfl rfl rfl ent44 rfl (fun w hs => make_c hd hdf hdl hdc had hcap w (hh w [] (hs.ent (.i (by repeat constructor))))) ?_; intro m1)
  refine EL.move rfl rfl rfl ?_
  (refine EL.callM rfl rfl rfl ent64 rfl (hec m1.1 m1.2) (by repeat constructor) ?_; intro e1)
  refine EL.move rfl rfl rfl ?_
  refine EL.move rfl rfl rfl ?_
  (refine EL.callXw rfl rfl rfl ent44 rfl (fun w hs => make_c tl tlf tll tlc tad tcap w (ht w [] (hs.ent (.i (by repeat constructor))))) ?_; intro m2)
  refine EL.move rfl rfl rfl ?_
  (refine EL.callM rfl rfl rfl ent104 rfl (hsc m2.1 m2.2) (by repeat constructor) ?_; intro e2)
  refine EL.assign rfl rfl rfl ?_
  refine EL.assign rfl rfl rfl ?_
  refine .gr ?_; repeat constructor
  refine EL.nilRow 3 1 ?_
  refine .gr ?_; repeat constructor
  refine EL.assign rfl rfl rfl ?_
  refine .gr ?_; repeat constructor
  refine EL.move rfl rfl rfl ?_
  refine EL.assign rfl rfl rfl ?_
  refine .gr ?_; repeat constructor
  refine ES.loop (σ := SPL) (fun z => z.n ≤ j + 1 - i ∧ z.l ++ ((dnL i z.n).filter fun p => FE.marks.getD p false && FSs.marks.getD p false) = L ∧ z.l.length + z.n ≤ j + 1 - i)
    (fun z => [(3, Iv (i : Nat)), (11, .slice (some ⟨e1, 0, none⟩) (s.length + 1) (s.length + 1)), (12, .slice (some ⟨e2, 0, none⟩) (s.length + 1) (s.length + 1)), (13, .slice z.ad z.l.length z.cap), (14, Iv ((i : Int) + (z.n : Int) - 1))])
    (fun z => IR z.ad z.cap z.l :: BR e1 (s.length + 1) FE.marks :: BR e2 (s.length + 1) FSs.marks :: WB gs s FSs.steps rest ty :: T :: R) (fun z => z.n) ⟨j + 1 - i, [], none, 0⟩ ⟨Nat.le_refl _, hL.symm, by simp⟩
    ⟨rfl, rfl, rfl, rfl, getA rfl (congrArg Iv (by simp only; omega)), trivial⟩ (.i (by repeat constructor)) ?_
  rintro ⟨n, l, ad, cap⟩ ⟨zn, zl, zc⟩
  dsimp only at zn zl zc ⊢
  refine .gr ?_; repeat constructor
  refine EL.move rfl rfl rfl ?_
  refine EL.move rfl rfl rfl ?_
  refine EL.geq rfl rfl rfl rfl ?_
  refine .gr ?_; repeat constructor
  refine ES.condD rfl (fun hge => ?_) (fun hlt => ?_)
  rotate_left
  · obtain rfl : n = 0 := by omega
    rw [dnL, List.filter_nil, List.append_nil] at zl
    subst zl
    refine .gr ?_; repeat constructor
    refine EL.move rfl rfl rfl ?_
    refine EL.assign rfl rfl rfl ?_
    refine .gr ?_; repeat constructor
    exact PX.ret rfl Try.results92 (.cons (.tmp rfl) .nil) (fun w hs => ⟨(ad, cap), rfl, hs.ent (.i (by repeat constructor))⟩)
  obtain ⟨n, rfl⟩ : ∃ n', n = n' + 1 := ⟨n - 1, by omega⟩
  have e : (i : Int) + ((n + 1 : Nat) : Int) - 1 = ((i + n : Nat) : Int) := by omega
  rw [e]
  have hp : i + n ≤ s.length := by omega
  rw [dnL, List.filter_cons] at zl
  refine .gr ?_; repeat constructor
  refine EL.cutX (X := Unit) (fun _ => [(3, Iv (i : Nat)), (11, .slice (some ⟨e1, 0, none⟩) (s.length + 1) (s.length + 1)), (12, .slice (some ⟨e2, 0, none⟩) (s.length + 1) (s.length + 1)), (13, .slice ad l.length cap), (14, Iv ((i + n : Nat) : Int)), (40, .bool (FE.marks.getD (i + n) false && FSs.marks.getD (i + n) false))])
    (fun _ => IR ad cap l :: BR e1 (s.length + 1) FE.marks :: BR e2 (s.length + 1) FSs.marks :: WB gs s FSs.steps rest ty :: T :: R) ?_ (fun _ => ?_)
  · refine .gr ?_; repeat constructor
    refine EL.move rfl rfl rfl ?_
    refine EL.move rfl rfl rfl ?_
    refine EL.indexAddrL1 rfl rfl rfl rfl rfl rfl rfl rfl (by omega) ?_
    refine EL.ofRV (RV.loadRm (l := FE.marks) Value.bool false rfl rfl rfl (by repeat constructor) (by rw [hl1]; omega)) rfl rfl rfl (by intro c h; cases h) ?_
    refine EL.move rfl rfl rfl ?_
    first | refine EL.splitD (d := 35) rfl (fun hp35 => ?_) (fun hp35 => ?_) | refine EL.splitN (d := 35) rfl (fun hp35 => ?_) (fun hp35 => ?_) | refine EL.splitB (d := 35) rfl (fun hp35 => ?_) (fun hp35 => ?_)
    · refine EL.move rfl rfl rfl ?_
      refine EL.move rfl rfl rfl ?_
      refine EL.indexAddrL1 rfl rfl rfl rfl rfl rfl rfl rfl (by omega) ?_
      refine EL.ofRV (RV.loadRm (l := FSs.marks) Value.bool false rfl rfl rfl (by repeat constructor) (by rw [hl2]; omega)) rfl rfl rfl (by intro c h; cases h) ?_
      refine EL.pickT rfl rfl rfl rfl ?_
      exact EL.endX () ⟨rfl, rfl, rfl, rfl, rfl, getA rfl (congrArg Value.bool (by rw [hp35]; rfl)), trivial⟩ (.i (by repeat constructor))
    · refine EL.pass rfl rfl rfl ?_
      refine EL.pass rfl rfl rfl ?_
      refine EL.pass rfl rfl rfl ?_
      refine EL.pass rfl rfl rfl ?_
      refine EL.pickF rfl rfl rfl rfl ?_
      exact EL.endX () ⟨rfl, rfl, rfl, rfl, rfl, getA rfl (congrArg Value.bool (by rw [hp35]; rfl)), trivial⟩ (.i (by repeat constructor))
  refine ES.cond rfl (fun hf => ?_) (fun hf => ?_)
  · rw [if_pos hf] at zl
    refine .gr ?_; repeat constructor
    refine EL.move rfl rfl rfl ?_
    refine EL.move rfl rfl rfl ?_
    (refine EL.buildSlice1 rfl rfl rfl rfl rfl rfl rfl rfl rfl rfl ?_; intro b43)
    (refine EL.append1 rfl rfl rfl rfl rfl rfl rfl rfl rfl (by repeat constructor) (by repeat constructor) (by first | (intro u hu; simp [Value.cells] at hu; subst hu; rfl) | exact all1 rfl) (by rfl) (by unfold maxLen; omega) (by first | omega | (show 1 * _ ≤ _; omega) | (show 8 * _ ≤ _; omega) | (show 16 * _ ≤ _; omega) | (show 24 * _ ≤ _; omega) | (show _ * 1 ≤ _; omega) | (show _ * 8 ≤ _; omega) | (show _ * 16 ≤ _; omega) | (show _ * 24 ≤ _; omega) | exact Nat.le_trans (Nat.mul_le_mul_right _ (show _ ≤ 1073741824 by omega)) (by decide)) ?_; intro a44 c44)
    refine EL.assign rfl rfl rfl ?_
    refine .gr ?_; repeat constructor
    refine .gr ?_; repeat constructor
    refine EL.move rfl rfl rfl ?_
    refine EL.sub_ ((i : Int) + (n : Int) - 1) rfl rfl rfl rfl ((wrap_i64 _ (by omega) (by omega)).trans (by omega)) ?_
    refine EL.assign rfl rfl rfl ?_
    refine .gr ?_; repeat constructor
    exact PX.loop ⟨n, l ++ [i + n], some ⟨a44, 0, none⟩, c44⟩ ⟨by dsimp only; omega, by dsimp only; rw [List.append_assoc]; exact zl, by dsimp only; rw [List.length_append, List.length_singleton]; omega⟩ (by simp only; omega) ⟨rfl, rfl, rfl, getA rfl (by simp), rfl, trivial⟩ (by dsimp only; unfold IR; rw [List.length_append, List.map_append]; exact (.i (by repeat constructor)))
  · rw [if_neg (by rw [hf]; simp)] at zl
    refine .gr ?_; repeat constructor
    refine .gr ?_; repeat constructor
    refine EL.move rfl rfl rfl ?_
    refine EL.sub_ ((i : Int) + (n : Int) - 1) rfl rfl rfl rfl ((wrap_i64 _ (by omega) (by omega)).trans (by omega)) ?_
    refine EL.assign rfl rfl rfl ?_
    refine .gr ?_; repeat constructor
    exact PX.loop ⟨n, l, ad, cap⟩ ⟨by dsimp only; omega, zl, by dsimp only; omega⟩ (by simp only; omega) ⟨rfl, rfl, rfl, rfl, rfl, trivial⟩ (.i (by repeat constructor))
end Go.Proofs.Ytblpgpgbnlhjlaa
