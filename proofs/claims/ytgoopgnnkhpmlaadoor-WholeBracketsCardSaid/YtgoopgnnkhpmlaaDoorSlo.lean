/- THE BASE: rows that begin within their block (s[1:] and its like), elements of one cell. -/
import Derived.Test.YtgoopgnnkhpmlaaDoorSld2
import Derived.ArgAppend
namespace Go.Proofs.YtgoopgnnkhpmlaaDoor.Sl
open Go Go.RowKit
set_option linter.unusedVariables false
set_option linter.unusedSimpArgs false

/-- The slice value v (n elements of type e, one cell each) owns the cells cs, wherever it begins in its block. -/
def ownsO (w : World) (e : TypeId) (v : Value) (n : Nat) (cs : List Value) : Prop :=
  cs.length = n ∧ ((v = .slice none 0 0 ∧ n = 0) ∨
    ∃ g off cap cur, v = .slice (some ⟨g, off, none⟩) n cap ∧ w.heap[g]? = some (.cells cur e (0, 0)) ∧ n ≤ cap ∧ cap ≤ maxLen ∧ off + cap ≤ cur.size ∧ (cur.toList.drop off).take n = cs)
theorem ownsO_loc {w w' : World} {e : TypeId} {n : Nat} {v : Value} {cs : List Value} (h : ∀ g ∈ v.ownBlock.toList, w'.heap[g]? = w.heap[g]?) (ho : ownsO w e v n cs) : ownsO w' e v n cs := by
  refine ⟨ho.1, ?_⟩
  rcases ho.2 with h1 | ⟨g, off, cap, cur, hv, hh, r⟩
  · exact .inl h1
  · refine .inr ⟨g, off, cap, cur, hv, ?_, r⟩
    rw [h g (by subst hv; simp [Value.ownBlock])]; exact hh
def HA.rowO (v : Value) (e n : Nat) (cs : List Value) : HA := ⟨v.ownBlock.toList, fun w => ownsO w e v n cs, fun _ _ h hw => ownsO_loc h hw⟩
theorem ownsO_nil (w : World) (e : TypeId) : ownsO w e (.slice none 0 0) 0 [] := ⟨rfl, .inl ⟨rfl, rfl⟩⟩
theorem Sat.nilRowO {H : List HA} {w0 : World} {B : Nat} {w : World} (hs : Sat w0 B H w) (e : Nat) : Sat w0 B (HA.rowO (.slice none 0 0) e 0 [] :: H) w :=
  ⟨hs.below, hs.base, by rw [fps_cons]; simpa [HA.rowO, Value.ownBlock] using hs.nodup, fun g hg => hs.lo g (by rw [fps_cons] at hg; simpa [HA.rowO, Value.ownBlock] using hg), fun A hA => by rcases List.mem_cons.1 hA with rfl | h; exact ownsO_nil _ _; exact hs.all A h⟩
theorem ownsO_of_row {w : World} {e : TypeId} {v : Value} {n : Nat} {cs : List Value} (h : w.ownsRow 0 e 1 v n cs) : ownsO w e v n cs := by
  refine ⟨by simpa using h.1, ?_⟩
  rcases h.2 with h1 | ⟨g, cap, cur, hv, _, hh, r1, r2, r3, r4⟩
  · exact .inl h1
  · exact .inr ⟨g, 0, cap, cur, hv, hh, r1, r2, by omega, by simpa using r4⟩
theorem rowO_cell {w : World} {e : TypeId} {g off len cap n : Nat} {cs : List Value} (h : ownsO w e (.slice (some ⟨g, off, none⟩) len cap) n cs) (j : Nat) (v : Value) (hj : cs[j]? = some v) : w.cell? ⟨g, off + j, none⟩ = some v := by
  rcases h.2 with ⟨h', _⟩ | ⟨g', off', cap', cur, hv, hh, r1, r2, r3, r4⟩
  · cases h'
  · simp only [Value.slice.injEq, Option.some.injEq, Addr.mk.injEq] at hv
    obtain ⟨⟨rfl, rfl, _⟩, rfl, rfl⟩ := hv
    rw [blk_cell hh]
    subst r4
    have hjn : j < len := by
      have := (List.getElem?_eq_some_iff.1 hj).1
      simp only [List.length_take] at this
      omega
    rw [List.getElem?_take_of_lt hjn, List.getElem?_drop] at hj
    simpa using hj

theorem add_block (b : Addr) (n : Nat) : (b.add n).block = b.block := by unfold Addr.add; split <;> rfl
section rowsO
variable {C : Cx} {all : Array Oper} {ops : List Oper} {Q : Qt} {E : Env} {H H' R : List HA} {d ty : Nat} {pos : String} {af : Array Edge} {gd : Option (Nat × Bool)} {x y z : Operand} {v u : Value} {t e g off : Nat}
theorem EL.nilRowO (e : Nat) (k : EL C all ops Q E (HA.rowO (.slice none 0 0) e 0 [] :: H)) : EL C all ops Q E H := fun a w h => k a w ⟨h.1, h.2.nilRowO e⟩
theorem ES.nilRowO {cs : List Code} (e : Nat) (k : ES C cs Q E (HA.rowO (.slice none 0 0) e 0 [] :: H)) : ES C cs Q E H := fun a w h => k a w ⟨h.1, h.2.nilRowO e⟩
theorem EL.loadRO {ti : TI} {len cap n j : Nat} {cs : List Value} (hg : guardOk all E gd = some true) (hx : E.ev x = some (Pv g (off + j))) (ht : C.T.f t = some ti) (hu : ti.agg = false) (hd : Nat.blt d C.n = true) (hm : Mem H (HA.rowO (.slice (some ⟨g, off, none⟩) len cap) e n cs)) (hc : cs[j]? = some v)
    (k : EL C all ops Q ((d, v) :: E) H) : EL C all (⟨some d, .load t x, ty, pos, af, gd⟩ :: ops) Q E H :=
  EL.load hg hx ht hu hd (fun w hs => rowO_cell (hs.all _ hm.mem) j v hc) k
theorem rowO_form {w : World} {e len cap n : Nat} {ad : Option Addr} {cs : List Value} (h : ownsO w e (.slice ad len cap) n cs) : len = n ∧ cs.length = n ∧ n ≤ cap ∧ (0 < n → ∃ g off, ad = some ⟨g, off, none⟩) := by
  rcases h.2 with ⟨h', rfl⟩ | ⟨g, off, cap', cur, hv, hh, r1, r2, r3, r4⟩
  · simp only [Value.slice.injEq] at h'
    obtain ⟨rfl, rfl, rfl⟩ := h'
    exact ⟨rfl, h.1, Nat.le_refl _, fun h => absurd h (by omega)⟩
  · simp only [Value.slice.injEq] at hv
    obtain ⟨rfl, rfl, rfl⟩ := hv
    exact ⟨rfl, h.1, r1, fun _ => ⟨g, off, rfl⟩⟩
theorem EL.rowOForm {len cap n : Nat} {ad : Option Addr} {cs : List Value} (hm : Mem H (HA.rowO (.slice ad len cap) e n cs)) (k : len = n ∧ cs.length = n ∧ n ≤ cap ∧ (0 < n → ∃ g off, ad = some ⟨g, off, none⟩) → EL C all ops Q E H) : EL C all ops Q E H :=
  fun a w h => k (rowO_form (h.2.all _ hm.mem)) a w h
theorem ES.rowOForm {cds : List Code} {len cap n : Nat} {ad : Option Addr} {cs : List Value} (hm : Mem H (HA.rowO (.slice ad len cap) e n cs)) (k : len = n ∧ cs.length = n ∧ n ≤ cap ∧ (0 < n → ∃ g off, ad = some ⟨g, off, none⟩) → ES C cds Q E H) : ES C cds Q E H :=
  fun a w h => k (rowO_form (h.2.all _ hm.mem)) a w h
/-- s[lo:] of a slice of one's own. -/
theorem EL.sliceO {ti te : TI} {el lo n cap : Nat} {ad : Option Addr} {cs : List Value} {kd : IntKind} (hg : guardOk all E gd = some true) (hx : E.ev x = some (.slice ad n cap)) (hy : E.ev y = some (.int kd (lo : Nat))) (ht : C.T.f t = some ti) (hu : ti.u = .slice el) (hte : C.T.f el = some te) (hsz : te.size = 1) (hd : Nat.blt d C.n = true)
    (p : Pick H (HA.rowO (.slice ad n cap) el n cs) R) (hlo : lo ≤ n)
    (k : ∀ ad', EL C all ops Q ((d, .slice ad' (n - lo) (cap - lo)) :: E) (HA.rowO (.slice ad' (n - lo) (cap - lo)) el (n - lo) (cs.drop lo) :: R)) : EL C all (⟨some d, .slice t x (some y) none none, ty, pos, af, gd⟩ :: ops) Q E H := by
  intro a w ha
  simp only [wpListIn, guardOk_wanted (o := ⟨some d, .slice t x (some y) none none, ty, pos, af, gd⟩) hg ha.1, if_true]
  refine ⟨fun _ _ => trivial, ?_⟩
  rw [sem_plain (by simp)]
  have hT := (C.T.ok t ti ht).u
  rw [hu] at hT
  have hI := (C.T.ok el te hte).runInfo w
  rw [hsz] at hI
  have hs1 := ha.2.perm p.perm
  have hown : ownsO w el (.slice ad n cap) n cs := hs1.head
  have hcap : n ≤ cap := by
    rcases hown.2 with ⟨h', h0⟩ | ⟨g, off, cap', cur, hv, _, r1, _⟩
    · simp only [Value.slice.injEq] at h'; omega
    · simp only [Value.slice.injEq] at hv; omega
  have hlc : lo ≤ cap := by omega
  have hrun : (execOp a.eval ⟨some d, .slice t x (some y) none none, ty, pos, af, gd⟩).run C.P w = .ok (.value (.slice (if cap = lo then ad else ad.map (·.add lo)) (n - lo) (cap - lo))) w := by
    simp [execOp, ha.1.ev hx, ha.1.ev hy, Instr.sliceAt, Instr.slice, Instr.sliceBounds, Instr.sliceBound, asIntOf, run_underlying hT, hI.1, Result.andThen, hlo, hlc, hcap]
  rw [hrun]
  refine k _ _ _ ⟨ha.1.put (by simpa using hd) _, ?_⟩
  refine hs1.turned (w' := w) (row := none) ⟨rfl, rfl, rfl, Nat.le_refl _, fun _ _ _ => rfl⟩ (fun k hk => by cases hk) ?_ ?_ ?_
  · refine ⟨by simp [hown.1], ?_⟩
    rcases hown.2 with ⟨h', h0⟩ | ⟨g, off, cap', cur, hv, hh, r1, r2, r3, r4⟩
    · simp only [Value.slice.injEq] at h'
      obtain ⟨rfl, rfl, rfl⟩ := h'
      left
      simp
    · simp only [Value.slice.injEq] at hv
      obtain ⟨rfl, _, rfl⟩ := hv
      right
      by_cases hc : cap = lo
      · refine ⟨g, off, cap - lo, cur, by rw [if_pos hc], hh, by omega, by omega, by omega, ?_⟩
        have hn : n - lo = 0 := by omega
        rw [hn, List.take_zero]
        have : cs.drop lo = [] := by rw [List.drop_eq_nil_iff]; have := hown.1; omega
        rw [this]
      · refine ⟨g, off + lo, cap - lo, cur, by rw [if_neg hc]; simp [add_n], hh, by omega, by omega, by omega, ?_⟩
        rw [← r4, List.drop_take, List.drop_drop]
  · intro g hg
    have hsub : g ∈ (HA.rowO (.slice ad n cap) el n cs).fp := by
      cases ad with
      | none => by_cases hc : cap = lo <;> simp [HA.rowO, Value.ownBlock, hc] at hg
      | some b => by_cases hc : cap = lo <;> simp [HA.rowO, Value.ownBlock, hc, add_block] at hg ⊢ <;> exact hg
    exact ⟨(hs1.lo g (by rw [fps_cons]; simp [hsub])).2, .inl hsub⟩
  · cases ad with
    | none => by_cases hc : cap = lo <;> simp [HA.rowO, Value.ownBlock, hc]
    | some b => by_cases hc : cap = lo <;> simp [HA.rowO, Value.ownBlock, hc]
/-- append(s, x) to such a slice, x laid in a new row of one element. -/
theorem EL.appendO1 {ti te : TI} {el : TypeId} {ad : Option Addr} {g1 n cap : Nat} {cs : List Value} (hg : guardOk all E gd = some true) (hx : E.ev x = some (.slice ad n cap)) (hy : E.ev y = some (.slice (some ⟨g1, 0, none⟩) 1 1)) (ht : C.T.f t = some ti) (hu : ti.u = .slice el) (hte : C.T.f el = some te)
    (hz1 : te.zero.cells.size = 1) (hsz : te.size = 1) (hd : Nat.blt d C.n = true) (hm : Mem H (HA.row (.slice (some ⟨g1, 0, none⟩) 1 1) el te.size 1 [u])) (p : Pick H (HA.rowO (.slice ad n cap) el n cs) R) (h1 : u.oneCell' = true)
    (h63 : n + 1 ≤ maxLen) (hbytes : (n + 1) * te.bytes ≤ 140737488355328)
    (k : ∀ g' off' cap', EL C all ops Q ((d, .slice (some ⟨g', off', none⟩) (n + 1) cap') :: E) (HA.rowO (.slice (some ⟨g', off', none⟩) (n + 1) cap') el (n + 1) (cs ++ [u]) :: R)) :
    EL C all (⟨some d, .call { callee := .builtin .append, args := #[x, y], argTypes := #[t, t] }, ty, pos, af, gd⟩ :: ops) Q E H := by
  intro a w ha
  simp only [wpListIn, guardOk_wanted (o := ⟨some d, .call { callee := .builtin .append, args := #[x, y], argTypes := #[t, t] }, ty, pos, af, gd⟩) hg ha.1, if_true]
  refine ⟨fun _ _ => trivial, ?_⟩
  rw [sem_plain (by simp)]
  have hT := (C.T.ok t ti ht).u
  rw [hu] at hT
  obtain ⟨i, hi, hz, hs, hb⟩ := (C.T.ok el te hte).info
  rw [hsz] at hs
  have hs1 := ha.2.perm p.perm
  have hown : ownsO w el (.slice ad n cap) n cs := hs1.head
  have hnews : ∀ j v, [u][j]? = some v → w.cell? ((⟨g1, 0, none⟩ : Addr).add j) = some v := row_news ha.2 hm
  have fin : ∀ (v' : Value) (w' : World) (g' off' cap' : Nat), v' = .slice (some ⟨g', off', none⟩) (n + 1) cap' → (Builtin.append_ #[t, t] ty #[.slice ad n cap, .slice (some ⟨g1, 0, none⟩) 1 1]).run C.P w = .ok v' w' → ownsO w' el v' (n + 1) (cs ++ [u]) → w.grownBy w' (Value.ownBlock (.slice ad n cap)) →
      (some g' = Value.ownBlock (.slice ad n cap) ∨ w.heap.size ≤ g') → g' < w'.heap.size → wpListIn (F0 C.r) 0 C.P all Q ops (a.put (some d) v') w' := by
    rintro v' w' g' off' cap' rfl hr hown' hgr hat hlt
    refine k g' off' cap' _ _ ⟨ha.1.put (by simpa using hd) _, ?_⟩
    refine hs1.turned hgr (fun k hk => by simp [HA.rowO, hk]) hown' (fun g hg => ?_) (by simp [HA.rowO, Value.ownBlock])
    simp only [HA.rowO, Value.ownBlock, Option.toList_some, List.mem_singleton] at hg
    subst hg
    refine ⟨hlt, ?_⟩
    rcases hat with hat | hat
    · left; simp [HA.rowO, ← hat]
    · exact .inr hat
  have key : ∃ (v' : Value) (w' : World) (g' off' cap' : Nat), v' = .slice (some ⟨g', off', none⟩) (n + 1) cap' ∧ (Builtin.append_ #[t, t] ty #[.slice ad n cap, .slice (some ⟨g1, 0, none⟩) 1 1]).run C.P w = .ok v' w' ∧ ownsO w' el v' (n + 1) (cs ++ [u]) ∧ w.grownBy w' (Value.ownBlock (.slice ad n cap)) ∧
      (some g' = Value.ownBlock (.slice ad n cap) ∨ w.heap.size ≤ g') ∧ g' < w'.heap.size := by
    have ofGrow : ∀ (v' : Value) (w' : World), (Builtin.append_ #[t, t] ty #[.slice ad n cap, .slice (some ⟨g1, 0, none⟩) 1 1]).run C.P w = .ok v' w' → w'.ownsRow w.heap.size el 1 v' (n + 1) (cs ++ [u]) → w.grownBy w' none →
        ∃ (v' : Value) (w' : World) (g' off' cap' : Nat), v' = .slice (some ⟨g', off', none⟩) (n + 1) cap' ∧ (Builtin.append_ #[t, t] ty #[.slice ad n cap, .slice (some ⟨g1, 0, none⟩) 1 1]).run C.P w = .ok v' w' ∧ ownsO w' el v' (n + 1) (cs ++ [u]) ∧ w.grownBy w' (Value.ownBlock (.slice ad n cap)) ∧
        (some g' = Value.ownBlock (.slice ad n cap) ∨ w.heap.size ≤ g') ∧ g' < w'.heap.size := by
      intro v' w' hr ho hgr
      rcases ho.2 with ⟨_, h0⟩ | ⟨g', cap', cur, hv, hbg, hh, r1, r2, r3, r4⟩
      · omega
      · refine ⟨v', w', g', 0, cap', hv, hr, ⟨by simpa using ho.1, .inr ⟨g', 0, cap', cur, hv, hh, r1, r2, by omega, by simpa using r4⟩⟩, ⟨hgr.os, hgr.tape, hgr.output, hgr.size, fun k hk _ => hgr.block k hk (by simp)⟩, .inr hbg, (Array.getElem?_eq_some_iff.1 hh).1⟩
    rcases hown.2 with ⟨h', h0⟩ | ⟨g, off, cap', cur, hv, hh, r1, r2, r3, r4⟩
    · simp only [Value.slice.injEq] at h'
      obtain ⟨rfl, rfl, rfl⟩ := h'
      obtain rfl : cs = [] := List.eq_nil_of_length_eq_zero hown.1
      obtain ⟨v', w', hr, ho, hgr, _, _⟩ := run_append_own_at (P := C.P) w w.heap.size t ty el i te.zero 1 te.bytes hT hi hz hs hb hz1 (by omega) (.slice none 0 0) 0 [] (World.ownsRow_nil _ _ _ _) ⟨g1, 0, none⟩ 1 1 [u] (by simp) hnews (by simpa using h1) h63 hbytes (Nat.le_refl _)
      exact ofGrow v' w' hr ho ⟨hgr.os, hgr.tape, hgr.output, hgr.size, fun k hk _ => hgr.block k hk (by simp [Value.ownBlock])⟩
    · simp only [Value.slice.injEq] at hv
      obtain ⟨rfl, _, rfl⟩ := hv
      by_cases hroom : n + 1 ≤ cap
      · have hlt : off + n < cur.size := by omega
        have hr := run_append_room_cells (P := C.P) w t ty el i hT hi g off n cap ⟨g1, 0, none⟩ 1 1 [u] (by simp [hs]) hnews (by simpa using h1) hroom
          (fun j hj => by simp only [List.length_singleton] at hj; obtain rfl : j = 0 := (by omega); rw [blk_cell hh, hs, Nat.mul_one, Nat.add_zero]; simp [hlt])
          (fun j hj => by simp [World.frozen?, hh])
        rw [hs, Nat.mul_one] at hr
        simp only [World.setCells] at hr
        refine ⟨_, _, g, off, cap, rfl, hr, ?_, ⟨rfl, rfl, rfl, by simp [World.setCell], fun k _ hk => Below.heap_setCell w _ u k (fun e => hk (by simp [Value.ownBlock]; exact e))⟩, .inl rfl, by simpa [World.setCell] using (Array.getElem?_eq_some_iff.1 hh).1⟩
        refine ⟨by simp [hown.1], .inr ⟨g, off, cap, cur.setIfInBounds (off + n) u, rfl, setCell_blk hh u, hroom, r2, by simpa using r3, ?_⟩⟩
        rw [← r4]
        simp only [Array.toList_setIfInBounds, List.drop_set]
        have hl : n < (cur.toList.drop off).length := by simp; omega
        have e1 : (if off + n < off then cur.toList.drop off else (cur.toList.drop off).set (off + n - off) u) = (cur.toList.drop off).set n u := by rw [if_neg (by omega), Nat.add_sub_cancel_left]
        rw [e1, List.take_succ_eq_append_getElem (by simpa using hl)]
        simp [List.take_set_of_le]
      · obtain ⟨v', w', hr, ho, hgr⟩ := run_append_arg_grows (P := C.P) w t ty el i te.zero 1 te.bytes hT hi hz hs hb hz1 (by omega) ⟨g, off, none⟩ n cap cs (by simpa using hown.1) (fun j v hj => by rw [add_n]; exact rowO_cell hown j v hj) ⟨g1, 0, none⟩ 1 1 [u] (by simp) hnews (by omega) h63 hbytes
        exact ofGrow v' w' hr ho hgr
  obtain ⟨v', w', g', off', cap', hv, hr, h2, h3, h4, h5⟩ := key
  have hrun : (execOp a.eval ⟨some d, .call { callee := .builtin .append, args := #[x, y], argTypes := #[t, t] }, ty, pos, af, gd⟩).run C.P w = .ok (.value v') w' := by
    simp [execOp, ha.1.ev hx, ha.1.ev hy, resolve, invoke, builtin, hr, Result.andThen]
  rw [hrun]
  exact fin v' w' g' off' cap' hv hr h2 h3 h4 h5
theorem EL.indexAddrLo {ti te : TI} {len cap : Nat} {el : TypeId} {kd : IntKind} {i : Nat} (hg : guardOk all E gd = some true) (hx : E.ev x = some (.slice (some ⟨g, off, none⟩) len cap)) (hy : E.ev y = some (.int kd (i : Nat))) (ht : C.T.f t = some ti) (hu : ti.u = .slice el)
    (hte : C.T.f el = some te) (hsz : Nat.beq te.size 1 = true) (hd : Nat.blt d C.n = true) (hi : i < len) (k : EL C all ops Q ((d, Pv g (off + i)) :: E) H) : EL C all (⟨some d, .indexAddr t x y, ty, pos, af, gd⟩ :: ops) Q E H :=
  EL.indexAddrL hg hx hy ht hu hte hd hi (by rw [Nat.eq_of_beq_eq_true hsz, Nat.mul_one]; exact k)
/-! pointers, one of them nil -/
theorem run_equal_pn {P : Program} {t el : Nat} (hT : P.underlying t = some (.pointer el)) (a b : Option Addr) (hb : b = none) (w : World) : (Op.equal t (.pointer a) (.pointer b)).run P w = .ok a.isNone w := by
  subst hb
  have key : ∀ d, (Op.equalIn (d + 1) t (.pointer a) (.pointer none)).run P w = .ok a.isNone w := fun d => by
    cases a <;> simp only [Op.equalIn, Sem.run_bind, run_underlying hT, Result.andThen, Sem.run_pure] <;> rfl
  exact key 9999
theorem EL.eqlPn {a : Option Addr} {ti : TI} {el t' : Nat} (hg : guardOk all E gd = some true) (hx : E.ev x = some (.pointer a)) (hy : E.ev y = some (.pointer none)) (ht : C.T.f t = some ti) (hu : ti.u = .pointer el) (hd : Nat.blt d C.n = true) (k : EL C all ops Q ((d, .bool a.isNone) :: E) H) : EL C all (⟨some d, .binOp .eql t x y t', ty, pos, af, gd⟩ :: ops) Q E H :=
  EL.val _ hg rfl hd (by simp) (fun ac w ha => by
    have hT := (C.T.ok t ti ht).u
    rw [hu] at hT
    simp only [execOp, ha.1.ev hx, ha.1.ev hy, eqGuard, binOp, Sem.run_bind, Sem.run_pure, run_equal_pn hT a none rfl, Result.andThen]
    rfl) k
theorem EL.neqPn {a : Option Addr} {ti : TI} {el t' : Nat} (hg : guardOk all E gd = some true) (hx : E.ev x = some (.pointer a)) (hy : E.ev y = some (.pointer none)) (ht : C.T.f t = some ti) (hu : ti.u = .pointer el) (hd : Nat.blt d C.n = true) (k : EL C all ops Q ((d, .bool (!a.isNone)) :: E) H) : EL C all (⟨some d, .binOp .neq t x y t', ty, pos, af, gd⟩ :: ops) Q E H :=
  EL.val _ hg rfl hd (by simp) (fun ac w ha => by
    have hT := (C.T.ok t ti ht).u
    rw [hu] at hT
    simp only [execOp, ha.1.ev hx, ha.1.ev hy, eqGuard, binOp, Sem.run_bind, Sem.run_pure, run_equal_pn hT a none rfl, Result.andThen]
    rfl) k
/-! contracts that turn what they are handed -/
inductive Takes : List HA → List HA → List HA → Prop
  | nil (H : List HA) : Takes H [] H
  | cons {H : List HA} {A : HA} {R T S : List HA} (p : Pick H A R) (t : Takes R T S) : Takes H (A :: T) S
theorem Takes.perm {H T S : List HA} (h : Takes H T S) : H.Perm (T ++ S) := by
  induction h with
  | nil H => exact .refl _
  | cons p t ih => exact p.perm.trans (ih.cons _)
def Mut {X : Type} (P : Program) (f : FuncId) (argv : Array Value) (Hq : List HA) (val : X → Value) (HX : X → List HA) : Prop :=
  ∀ (w0 : World) (B : Nat) (R : List HA) (w : World), Sat w0 B (Hq ++ R) w → Calls P f argv w fun e w' => ∃ x, e = .returned (val x) ∧ Sat w0 B (HX x ++ R) w'
theorem EL.callM {X : Type} {fo : Operand} {ar : Array Operand} {tys : Array TypeId} {f : FuncId} {vs : List Value} {Hq : List HA} {val : X → Value} {HX : X → List HA} (hg : guardOk all E gd = some true) (hf : E.ev fo = some (.func (.func f) #[] #[])) (ha : E.evl ar.toList = some vs)
    (he : Enters C.P f) (hd : Nat.blt d C.n = true) (hc : Mut C.P f vs.toArray Hq val HX) (tk : Takes H Hq R)
    (k : ∀ x, EL C all ops Q ((d, val x) :: E) (HX x ++ R)) : EL C all (⟨some d, .call { callee := .value fo, args := ar, argTypes := tys }, ty, pos, af, gd⟩ :: ops) Q E H :=
  EL.call val (fun x => HX x ++ R) hg hf ha (by simp) he hd (fun w hs => hc _ _ R w (hs.perm tk.perm)) k
/-- The same where the answer, and what it leaves, are known. -/
theorem EL.callM1 {fo : Operand} {ar : Array Operand} {tys : Array TypeId} {f : FuncId} {vs : List Value} {Hq Hr : List HA} {v : Value} (hg : guardOk all E gd = some true) (hf : E.ev fo = some (.func (.func f) #[] #[])) (ha : E.evl ar.toList = some vs)
    (he : Enters C.P f) (hd : Nat.blt d C.n = true) (hc : Mut C.P f vs.toArray Hq (fun _ : Unit => v) (fun _ => Hr)) (tk : Takes H Hq R)
    (k : EL C all ops Q ((d, v) :: E) (Hr ++ R)) : EL C all (⟨some d, .call { callee := .value fo, args := ar, argTypes := tys }, ty, pos, af, gd⟩ :: ops) Q E H :=
  EL.callM hg hf ha he hd hc tk (fun _ => k)
theorem Mut.pure {X : Type} {P : Program} {f : FuncId} {argv : Array Value} {val : X → Value} {HX : X → List HA} (h : ∀ w, Pure P f argv val HX w) : Mut P f argv [] val HX := fun w0 B R w hs => (h w).sat hs
theorem Pure.mut {X : Type} {P : Program} {f : FuncId} {argv : Array Value} {val : X → Value} {HX : X → List HA} (h : Mut P f argv [] val HX) (w : World) : Pure P f argv val HX w :=
  (h w w.heap.size [] w (Sat.start w)).mono fun e w' ⟨x, he, hs⟩ => ⟨x, he, by simpa using hs⟩
/-- A call of a function for which the model stands in. -/
theorem EL.callE {fo : Operand} {ar : Array Operand} {tys : Array TypeId} {f : FuncId} {vs : List Value} (hg : guardOk all E gd = some true) (hf : E.ev fo = some (.func (.func f) #[] #[])) (ha : E.evl ar.toList = some vs) (hd : Nat.blt d C.n = true)
    (hc : ∀ w, (callFunc f vs.toArray).run C.P w = .ok (.value v) w)
    (k : EL C all ops Q ((d, v) :: E) H) : EL C all (⟨some d, .call { callee := .value fo, args := ar, argTypes := tys }, ty, pos, af, gd⟩ :: ops) Q E H :=
  EL.val v hg rfl hd (by simp) (fun a w hat => by
    have hm : ar.map a.eval = vs.toArray := by
      have := hat.1.evl ha
      apply Array.ext'
      simpa using this
    simp only [execOp, resolve, hat.1.ev hf, hm, Deferred.ofValue, Sem.run_bind, Sem.run_pure, Result.andThen, invoke]
    rw [show (#[] ++ vs.toArray ++ #[] : Array Value) = vs.toArray by simp]
    exact hc w) k
/-! memory that came in: it is only read -/
/-- The cells cs lie behind the address ad, in blocks below B. -/
def Rd (w : World) (B : Nat) (ad : Option Addr) (cs : List Value) : Prop := cs ≠ [] → ∃ g off, ad = some ⟨g, off, none⟩ ∧ g < B ∧ ∀ j v, cs[j]? = some v → w.cell? ⟨g, off + j, none⟩ = some v
theorem Rd.below {w0 w : World} {B B' : Nat} {ad : Option Addr} {cs : List Value} (h : Rd w0 B ad cs) (hb : Below B w0 w) (hB : B ≤ B') : Rd w B' ad cs := by
  intro hne
  obtain ⟨g, off, h1, h2, h3⟩ := h hne
  exact ⟨g, off, h1, by omega, fun j v hj => by
    have := h3 j v hj
    unfold World.cell? at this ⊢
    rw [hb.block g h2]; exact this⟩
theorem Rd.sat {w0 w : World} {B : Nat} {ad : Option Addr} {cs : List Value} (h : Rd w0 B ad cs) (hs : Sat w0 B H w) : Rd w w.heap.size ad cs := h.below hs.below hs.base
theorem Rd.row {w0 w : World} {B n cap sz e : Nat} {ad : Option Addr} {cs : List Value} (hs : Sat w0 B H w) (hm : Mem H (HA.row (.slice ad n cap) e sz n cs)) (hsz : 0 < sz) : Rd w w.heap.size ad cs := by
  intro hne
  have hf := row_form (hs.all _ hm.mem)
  have hpos : 0 < n := by
    rcases Nat.eq_zero_or_pos n with h0 | h0
    · subst h0; exact absurd (List.eq_nil_of_length_eq_zero (by simpa using hf.2.2.2.1)) hne
    · exact h0
  obtain ⟨g, rfl⟩ := hf.2.2.2.2 hpos
  have hlt := (hs.lo g (List.mem_flatMap.2 ⟨_, hm.mem, by simp [HA.row, Value.ownBlock]⟩)).2
  exact ⟨g, 0, rfl, hlt, fun j v hj => by rw [Nat.zero_add]; exact row_cell (hs.all _ hm.mem) j v hj⟩
theorem Rd.drop {w : World} {B : Nat} {g off k : Nat} {cs : List Value} (h : Rd w B (some ⟨g, off, none⟩) cs) (hk : k < cs.length) : Rd w B (some ⟨g, off + k, none⟩) (cs.drop k) := by
  intro _
  obtain ⟨g', off', h1, h2, h3⟩ := h (by intro e; subst e; simp at hk)
  simp only [Option.some.injEq, Addr.mk.injEq] at h1
  obtain ⟨rfl, rfl, _⟩ := h1
  refine ⟨g, off + k, rfl, h2, fun j v hj => ?_⟩
  rw [List.getElem?_drop] at hj
  rw [Nat.add_assoc]
  exact h3 _ v hj
theorem EL.loadOld {ti : TI} {j : Nat} {cs : List Value} (hg : guardOk all E gd = some true) (hx : E.ev x = some (Pv g (off + j))) (ht : C.T.f t = some ti) (hu : ti.agg = false) (hd : Nat.blt d C.n = true) (hr : Rd C.w0 C.B (some ⟨g, off, none⟩) cs) (hc : cs[j]? = some v)
    (k : EL C all ops Q ((d, v) :: E) H) : EL C all (⟨some d, .load t x, ty, pos, af, gd⟩ :: ops) Q E H :=
  EL.load hg hx ht hu hd (fun w hs => by
    obtain ⟨g', off', h1, h2, h3⟩ := hr (by intro e; subst e; simp at hc)
    simp only [Option.some.injEq, Addr.mk.injEq] at h1
    obtain ⟨rfl, rfl, _⟩ := h1
    have := h3 j v hc
    unfold World.cell? at this ⊢
    rw [hs.below.block g h2]; exact this) k
theorem RV.loadOld {ti : TI} {j : Nat} {cs : List Value} (hx : E.ev x = some (Pv g (off + j))) (ht : C.T.f t = some ti) (hu : ti.agg = false) (hr : Rd C.w0 C.B (some ⟨g, off, none⟩) cs) (hc : cs[j]? = some v) : RunV C E H ⟨some d, .load t x, ty, pos, af, gd⟩ v :=
  RV.load hx ht hu (fun w hs => by
    obtain ⟨g', off', h1, h2, h3⟩ := hr (by intro e; subst e; simp at hc)
    simp only [Option.some.injEq, Addr.mk.injEq] at h1
    obtain ⟨rfl, rfl, _⟩ := h1
    have := h3 j v hc
    unfold World.cell? at this ⊢
    rw [hs.below.block g h2]; exact this)
/-- A whole struct out of memory that came in. -/
theorem EL.loadOldA {ti : TI} {j : Nat} {cs vs : List Value} (hg : guardOk all E gd = some true) (hx : E.ev x = some (Pv g (off + j))) (ht : C.T.f t = some ti) (hu : ti.agg = true) (hl : ti.size = vs.length) (hpos : 0 < vs.length) (hd : Nat.blt d C.n = true) (hr : Rd C.w0 C.B (some ⟨g, off, none⟩) cs) (hc : ∀ i u, vs[i]? = some u → cs[j + i]? = some u)
    (k : EL C all ops Q ((d, .agg vs.toArray) :: E) H) : EL C all (⟨some d, .load t x, ty, pos, af, gd⟩ :: ops) Q E H :=
  EL.loadAgg (cs := vs) hg hx ht hu hl hd (fun w hs i u hi => by
    have hci := hc i u hi
    obtain ⟨g', off', h1, h2, h3⟩ := hr (by intro e; subst e; simp at hci)
    simp only [Option.some.injEq, Addr.mk.injEq] at h1
    obtain ⟨rfl, rfl, _⟩ := h1
    have := h3 _ u hci
    rw [add_n, Nat.add_assoc]
    unfold World.cell? at this ⊢
    rw [hs.below.block g h2]; exact this) k
theorem EL.callPw {fo : Operand} {ar : Array Operand} {tys : Array TypeId} {f : FuncId} {vs : List Value} {v : Value} (hg : guardOk all E gd = some true) (hf : E.ev fo = some (.func (.func f) #[] #[])) (ha : E.evl ar.toList = some vs)
    (he : Enters C.P f) (hd : Nat.blt d C.n = true) (hc : ∀ w, Sat C.w0 C.B H w → Pure C.P f vs.toArray (fun _ : Unit => v) (fun _ => []) w)
    (k : EL C all ops Q ((d, v) :: E) H) : EL C all (⟨some d, .call { callee := .value fo, args := ar, argTypes := tys }, ty, pos, af, gd⟩ :: ops) Q E H :=
  EL.call (fun _ : Unit => v) (fun _ => H) hg hf ha (by simp) he hd (fun w hs => (hc w hs).sat hs) (fun _ => k)
theorem EL.callXw {X : Type} {fo : Operand} {ar : Array Operand} {tys : Array TypeId} {f : FuncId} {vs : List Value} {val : X → Value} {HX : X → List HA} (hg : guardOk all E gd = some true) (hf : E.ev fo = some (.func (.func f) #[] #[])) (ha : E.evl ar.toList = some vs)
    (he : Enters C.P f) (hd : Nat.blt d C.n = true) (hc : ∀ w, Sat C.w0 C.B H w → Pure C.P f vs.toArray val HX w)
    (k : ∀ x, EL C all ops Q ((d, val x) :: E) (HX x ++ H)) : EL C all (⟨some d, .call { callee := .value fo, args := ar, argTypes := tys }, ty, pos, af, gd⟩ :: ops) Q E H :=
  EL.call val (fun x => HX x ++ H) hg hf ha (by simp) he hd (fun w hs => (hc w hs).sat hs) k
end rowsO
end Go.Proofs.YtgoopgnnkhpmlaaDoor.Sl
