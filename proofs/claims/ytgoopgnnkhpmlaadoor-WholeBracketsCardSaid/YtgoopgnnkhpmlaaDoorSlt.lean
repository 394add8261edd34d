/- THE BASE: buffers of bytes whose head may be frozen (strings.Builder); pointers turned about. -/
import Derived.Test.YtgoopgnnkhpmlaaDoorSlg
import Derived.Lib.FrozenHead2
namespace Go.Proofs.YtgoopgnnkhpmlaaDoor.Sl
open Go Go.RowKit Go.Lib
set_option linter.unusedVariables false
set_option linter.unusedSimpArgs false

def ownsB (w : World) (e : TypeId) (v : Value) (n : Nat) (cs : List Value) : Prop := w.ownsRowF 0 e 1 v n cs ∧ (n = 0 → v = .slice none 0 0)
theorem ownsB_loc {w w' : World} {e : TypeId} {n : Nat} {v : Value} {cs : List Value} (h : ∀ g ∈ v.ownBlock.toList, w'.heap[g]? = w.heap[g]?) (ho : ownsB w e v n cs) : ownsB w' e v n cs := by
  refine ⟨⟨ho.1.1, ?_⟩, ho.2⟩
  rcases ho.1.2 with h1 | ⟨g, cap, cur, fz, hv, hb, hh, r⟩
  · exact .inl h1
  · refine .inr ⟨g, cap, cur, fz, hv, hb, ?_, r⟩
    rw [h g (by subst hv; simp [Value.ownBlock])]; exact hh
def HA.buf (v : Value) (e n : Nat) (cs : List Value) : HA := ⟨v.ownBlock.toList, fun w => ownsB w e v n cs, fun _ _ h hw => ownsB_loc h hw⟩
theorem Sat.nilBuf {H : List HA} {w0 : World} {B : Nat} {w : World} (hs : Sat w0 B H w) (e : Nat) : Sat w0 B (HA.buf (.slice none 0 0) e 0 [] :: H) w :=
  ⟨hs.below, hs.base, by rw [fps_cons]; simpa [HA.buf, Value.ownBlock] using hs.nodup, fun g hg => hs.lo g (by rw [fps_cons] at hg; simpa [HA.buf, Value.ownBlock] using hg), fun A hA => by
    rcases List.mem_cons.1 hA with rfl | h
    · exact ⟨World.ownsRowF_nil _ _ _ _, fun _ => rfl⟩
    · exact hs.all A h⟩
theorem EL.nilBuf {C : Cx} {all : Array Oper} {ops : List Oper} {Q : Qt} {E : Env} {H : List HA} (e : Nat) (k : EL C all ops Q E (HA.buf (.slice none 0 0) e 0 [] :: H)) : EL C all ops Q E H := fun a w h => k a w ⟨h.1, h.2.nilBuf e⟩
theorem ES.nilBuf {C : Cx} {cs : List Code} {Q : Qt} {E : Env} {H : List HA} (e : Nat) (k : ES C cs Q E (HA.buf (.slice none 0 0) e 0 [] :: H)) : ES C cs Q E H := fun a w h => k a w ⟨h.1, h.2.nilBuf e⟩
theorem ownsRowF_zero {w : World} {b : Nat} {e : TypeId} {sz n : Nat} {v : Value} {cs : List Value} (h : w.ownsRowF b e sz v n cs) : w.ownsRowF 0 e sz v n cs := by
  refine ⟨h.1, ?_⟩
  rcases h.2 with h1 | ⟨g, cap, cur, fz, hv, hb, r⟩
  · exact .inl h1
  · exact .inr ⟨g, cap, cur, fz, hv, Nat.zero_le _, r⟩
theorem strCells_sv (l : List UInt8) : strCells ⟨l.toArray⟩ = l.map Uv := by simp [strCells]
/-- append(buffer, s...). -/
theorem run_appendB {P : Program} (w : World) (t u ty e : TypeId) (i : TypeInfo) (ht : P.underlying t = some (.slice e)) (hu : P.underlying u = some .string) (hi : P.info? e = some i) (hz : i.zero = some (.int .u8 0)) (hsize : i.size = 1) (hby : i.bytes = 1)
    (v : Value) (n : Nat) (xs : List Value) (hown : ownsB w e v n xs) (l : List UInt8) (hbytes : n + l.length ≤ 140737488355328) :
    ∃ ad' cap' w', (Builtin.append_ #[t, u] ty #[v, Sv l]).run P w = .ok (.slice ad' (n + l.length) cap') w' ∧ ownsB w' e (.slice ad' (n + l.length) cap') (n + l.length) (xs ++ l.map Uv) ∧ w.grownBy w' v.ownBlock ∧
      (∀ k, Value.ownBlock (.slice ad' (n + l.length) cap') = some k → (some k = v.ownBlock ∨ w.heap.size ≤ k) ∧ k < w'.heap.size) := by
  have h63 : n + l.length ≤ maxLen := by unfold maxLen; omega
  have fin : ∀ (v' : Value) (w' : World), (Builtin.append_ #[t, u] ty #[v, Sv l]).run P w = .ok v' w' → w'.ownsRowF 0 e 1 v' (n + l.length) (xs ++ l.map Uv) → (n + l.length = 0 → v' = .slice none 0 0) → w.grownBy w' v.ownBlock → (∀ k, v'.ownBlock = some k → (some k = v.ownBlock ∨ w.heap.size ≤ k)) →
      ∃ ad' cap' w', (Builtin.append_ #[t, u] ty #[v, Sv l]).run P w = .ok (.slice ad' (n + l.length) cap') w' ∧ ownsB w' e (.slice ad' (n + l.length) cap') (n + l.length) (xs ++ l.map Uv) ∧ w.grownBy w' v.ownBlock ∧
      (∀ k, Value.ownBlock (.slice ad' (n + l.length) cap') = some k → (some k = v.ownBlock ∨ w.heap.size ≤ k) ∧ k < w'.heap.size) := by
    intro v' w' hr ho hnil hg hat
    obtain ⟨ad', cap', rfl⟩ : ∃ ad' cap', v' = .slice ad' (n + l.length) cap' := by
      rcases ho.2 with ⟨h', h0⟩ | ⟨g', cap', cur, fz, hv, _⟩
      · exact ⟨none, 0, by rw [h', h0]⟩
      · exact ⟨_, cap', hv⟩
    exact ⟨ad', cap', w', hr, ⟨ho, hnil⟩, hg, fun k hk => ⟨hat k hk, (ho.lt k hk).2⟩⟩
  rcases hown.1.2 with ⟨rfl, rfl⟩ | ⟨g, cap, cur, fz, rfl, hbg, hg, hfz, hnc, hcm, hcs, htake⟩
  · obtain rfl : xs = [] := List.eq_nil_of_length_eq_zero (by simpa using hown.1.1)
    obtain ⟨v', w', h1, h2, h3, h4⟩ := run_append_own_stringF (P := P) w w.heap.size t u ty e i ht hu hi hz hsize hby (.slice none 0 0) 0 [] (World.ownsRowF_nil _ _ _ _) ⟨l.toArray⟩ h63 hbytes (Nat.le_refl _)
    rw [strCells_sv] at h2
    refine fin v' w' h1 (ownsRowF_zero h2) (fun h0 => h4.2 ⟨rfl, by rw [size_sv]; omega⟩) h3 (fun k hk => .inr (h2.lt k hk).1)
  · have hn0 : 0 < n := by
      rcases Nat.eq_zero_or_pos n with h0 | h0
      · have := hown.2 h0; cases this
      · exact h0
    have hxl : xs.length = n := by simpa using hown.1.1
    have hlen : (xs ++ l.map Uv).length = (n + l.length) * 1 := by rw [List.length_append, hxl, List.length_map, Nat.mul_one]
    have hss : (⟨l.toArray⟩ : ByteArray).size = l.length := size_sv l
    by_cases hroom : n + l.length ≤ cap
    · have hcs' : cur.size = cap := by simpa using hcs
      have hr := run_append_room_stringF (P := P) w t u ty e i ht hu hi hsize g n cap cur fz hg (by simpa using hfz) ⟨l.toArray⟩ (by rw [hss]; exact hroom) (by rw [hss]; omega)
      rw [strCells_sv, hss] at hr
      refine fin _ _ hr ⟨hlen, .inr ⟨g, cap, _, fz, rfl, Nat.zero_le _, setRow_heap w g cur _ e _ hg, by omega, hroom, hcm, ?_, ?_⟩⟩ (fun h => by omega) ⟨rfl, rfl, rfl, by simp, fun k _ hk => setRow_other w g k _ (fun e => hk (by simp [Value.ownBlock, e]))⟩ (fun k hk => .inl (by rw [← hk]; rfl))
      · simp only [List.size_toArray, List.length_append, List.length_take, List.length_drop, Array.length_toList, List.length_map]
        omega
      · have ht' : cur.toList.take n = xs := by simpa using htake
        rw [ht', ← hlen]
        exact List.take_left
    · have holds : ∀ j u, xs[j]? = some u → w.cell? ((⟨g, 0, none⟩ : Addr).add j) = some u := hown.1.cells (g := g) rfl
      have hr := run_append_grow_string (P := P) w t u ty e i (.int .u8 0) ht hu hi hz ⟨g, 0, none⟩ n cap xs (by rw [hsize]; simpa using hxl) holds ⟨l.toArray⟩ (by rw [hss]; omega) (by rw [hss]; simp only [maxLen] at h63; omega) (by rw [hby, hss]; exact growslice_fits (by omega) (by omega))
      rw [strCells_sv, hss] at hr
      have hge := grownCap_ge w (n + l.length) cap e
      have hcm2 : grownCap w (n + l.length) cap e ≤ maxLen := grownCap_le_maxLen w (n + l.length) cap e h63
      refine fin _ _ hr ⟨hlen, .inr ⟨w.heap.size, _, _, (0, 0), rfl, Nat.zero_le _, heap_alloc_new w.drew _, Nat.zero_le _, hge, hcm2, ?_, ?_⟩⟩ (fun h => by omega) ⟨rfl, rfl, rfl, by simp, fun k hk _ => alloc_old w.drew _ k hk⟩ (fun k hk => .inr (by simp only [Value.ownBlock, Option.some.injEq] at hk; omega))
      · have hz1 : (Value.int IntKind.u8 0).cells.size = 1 := rfl
        simp only [Array.size_append, List.size_toArray, size_zeroCells, hz1, hxl, List.length_map]
        omega
      · simp only [Array.toList_append, List.append_assoc]
        rw [← List.append_assoc, ← hlen]
        exact List.take_left
section buffers
variable {C : Cx} {all : Array Oper} {ops : List Oper} {Q : Qt} {E : Env} {H H' R : List HA} {d ty t t' t2 e g off : Nat} {pos : String} {af : Array Edge} {gd : Option (Nat × Bool)} {x y : Operand}
theorem EL.appendB {ti ts te : TI} {el : TypeId} {ad : Option Addr} {n cap : Nat} {cs : List Value} {l : List UInt8} (hg : guardOk all E gd = some true) (hx : E.ev x = some (.slice ad n cap)) (hy : E.ev y = some (Sv l)) (ht : C.T.f t = some ti) (hu : ti.u = .slice el) (hts : C.T.f t2 = some ts) (hus : ts.u = .string) (hte : C.T.f el = some te)
    (hz1 : te.zero = .int .u8 0) (hs1 : te.size = 1) (hb1 : te.bytes = 1) (hd : Nat.blt d C.n = true) (p : Pick H (HA.buf (.slice ad n cap) el n cs) R) (hb : n + l.length ≤ 140737488355328)
    (k : ∀ ad' cap', EL C all ops Q ((d, .slice ad' (n + l.length) cap') :: E) (HA.buf (.slice ad' (n + l.length) cap') el (n + l.length) (cs ++ l.map Uv) :: R)) :
    EL C all (⟨some d, .call { callee := .builtin .append, args := #[x, y], argTypes := #[t, t2] }, ty, pos, af, gd⟩ :: ops) Q E H := by
  intro a w ha
  simp only [wpListIn, guardOk_wanted (o := ⟨some d, .call { callee := .builtin .append, args := #[x, y], argTypes := #[t, t2] }, ty, pos, af, gd⟩) hg ha.1, if_true]
  refine ⟨fun _ _ => trivial, ?_⟩
  rw [sem_plain (by simp)]
  have hT := (C.T.ok t ti ht).u
  rw [hu] at hT
  have hS := (C.T.ok t2 ts hts).u
  rw [hus] at hS
  obtain ⟨i, hi, hz, hs, hby⟩ := (C.T.ok el te hte).info
  rw [hz1] at hz; rw [hs1] at hs; rw [hb1] at hby
  have hs1' := ha.2.perm p.perm
  obtain ⟨ad', cap', w', hr, hown', hgr, hat⟩ := run_appendB (P := C.P) w t t2 ty el i hT hS hi hz hs hby (.slice ad n cap) n cs hs1'.head l hb
  have hrun : (execOp a.eval ⟨some d, .call { callee := .builtin .append, args := #[x, y], argTypes := #[t, t2] }, ty, pos, af, gd⟩).run C.P w = .ok (.value (.slice ad' (n + l.length) cap')) w' := by
    simp only [execOp, ha.1.ev hx, ha.1.ev hy, resolve, invoke, builtin, Sem.run_bind, Sem.run_pure, List.map_toArray, List.map_cons, List.map_nil, hr, Result.andThen]
  rw [hrun]
  refine k ad' cap' _ _ ⟨ha.1.put (by simpa using hd) _, ?_⟩
  refine hs1'.turned hgr (fun k hk => by simp [HA.buf, hk]) hown' (fun g hg => ?_) ?_
  · have hg' : Value.ownBlock (.slice ad' (n + l.length) cap') = some g := by simpa [HA.buf] using hg
    obtain ⟨h1, h2⟩ := hat g hg'
    refine ⟨h2, ?_⟩
    rcases h1 with h1 | h1
    · left; simp [HA.buf, ← h1]
    · exact .inr h1
  · show (Value.ownBlock (.slice ad' (n + l.length) cap')).toList.Nodup
    cases Value.ownBlock (.slice ad' (n + l.length) cap') <;> simp
theorem buf_form {w : World} {e n len cap : Nat} {ad : Option Addr} {cs : List Value} (h : ownsB w e (.slice ad len cap) n cs) : len = n ∧ cs.length = n ∧ ((n = 0 ∧ ad = none ∧ cap = 0) ∨ (0 < n ∧ cap ≠ 0 ∧ ∃ g cur fz, ad = some ⟨g, 0, none⟩ ∧ w.heap[g]? = some (.cells cur e fz) ∧ fz.2 ≤ n ∧ n ≤ cap ∧ cur.size = cap ∧ cur.toList.take n = cs)) := by
  have hl : cs.length = n := by simpa using h.1.1
  rcases h.1.2 with ⟨h1, h2⟩ | ⟨g, cap', cur, fz, hv, hb, hh, hf, r1, r2, r3, r4⟩
  · injection h1 with ha hlen hc
    exact ⟨by omega, hl, .inl ⟨h2, ha, hc⟩⟩
  · injection hv with ha hlen hc
    subst hc
    have hn0 : 0 < n := by
      rcases Nat.eq_zero_or_pos n with h0 | h0
      · have := h.2 h0
        injection this with ha' _ _
        rw [ha] at ha'; cases ha'
      · exact h0
    exact ⟨hlen, hl, .inr ⟨hn0, by omega, g, cur, fz, ha, hh, by simpa using hf, r1, by simpa using r3, by simpa using r4⟩⟩
/-- unsafe.SliceData(buffer). -/
theorem RV.sliceData {ad : Option Addr} {n cap : Nat} {cs : List Value} (hx : E.ev x = some (.slice ad n cap)) (hm : Mem H (HA.buf (.slice ad n cap) e n cs)) : RunV C E H ⟨some d, .call { callee := .builtin .unsafeSliceData, args := #[x], argTypes := #[t] }, ty, pos, af, gd⟩ (.pointer ad) := by
  intro a w ha
  have hf := buf_form (ha.2.all _ hm.mem)
  have hr : (Builtin.unsafeSliceData_ #[t] ty #[.slice ad n cap]).run C.P w = .ok (.pointer ad) w := by
    rcases hf.2.2 with ⟨_, rfl, _⟩ | ⟨_, hc, g, cur, fz, rfl, _⟩
    · exact run_unsafeSliceData_nil w _ _ _ _
    · exact run_unsafeSliceData_row w _ _ _ _ _ hc
  simp only [execOp, ha.1.ev hx, resolve, invoke, builtin, Sem.run_bind, Sem.run_pure, List.map_toArray, List.map_cons, List.map_nil, hr, Result.andThen]
theorem freeze_own {w : World} {e n cap : Nat} {ad : Option Addr} {cs : List Value} {g : Nat} (h : ownsB w e (.slice ad n cap) n cs) (hg : ad = some ⟨g, 0, none⟩) : ownsB (w.freeze ⟨g, 0, none⟩ n) e (.slice ad n cap) n cs := by
  refine ⟨⟨h.1.1, ?_⟩, h.2⟩
  subst hg
  rcases h.1.2 with ⟨hv, _⟩ | ⟨g', cap', cur, fz, hv, hbg, hh, hfz, rest⟩
  · cases hv
  · injection hv with ha _ hc
    injection ha with ha
    injection ha with hgg _ _
    subst hgg; subst hc
    unfold World.freeze
    split
    · exact .inr ⟨g, _, cur, fz, rfl, hbg, hh, hfz, rest⟩
    · obtain ⟨lo, hi⟩ := fz
      refine .inr ⟨g, _, cur, (if lo == hi then (0, 0 + n) else (min lo 0, max hi (0 + n))), rfl, hbg, ?_, ?_, rest⟩
      · simp [Array.getElem?_modify, hh]
      · simp only at hfz
        split <;> simp <;> omega
/-- unsafe.String over the whole buffer. -/
theorem EL.unsafeStr {tp : TI} {el t3 : TypeId} {ad : Option Addr} {n cap : Nat} {bs : List UInt8} (hg : guardOk all E gd = some true) (hx : E.ev x = some (.pointer ad)) (hy : E.ev y = some (Iv (n : Nat))) (ht : C.T.f t = some tp) (hu : tp.u = .pointer el) (hce : C.P.cellsOf el = 1) (hd : Nat.blt d C.n = true)
    (p : PickSet H (HA.buf (.slice ad n cap) el n (bs.map Uv)) (HA.buf (.slice ad n cap) el n (bs.map Uv)) H) (h63 : n ≤ 9223372036854775807)
    (k : EL C all ops Q ((d, Sv bs) :: E) H) : EL C all (⟨some d, .call { callee := .builtin .unsafeString, args := #[x, y], argTypes := #[t, t3] }, ty, pos, af, gd⟩ :: ops) Q E H := by
  intro a w ha
  simp only [wpListIn, guardOk_wanted (o := ⟨some d, .call { callee := .builtin .unsafeString, args := #[x, y], argTypes := #[t, t3] }, ty, pos, af, gd⟩) hg ha.1, if_true]
  refine ⟨fun _ _ => trivial, ?_⟩
  rw [sem_plain (by simp)]
  have hT := (C.T.ok t tp ht).u
  rw [hu] at hT
  obtain ⟨R, p1, p2⟩ := p.split
  have hs1 := ha.2.perm p1
  have hown : ownsB w el (.slice ad n cap) n (bs.map Uv) := hs1.head
  have hf := buf_form hown
  have hbl : bs.length = n := by simpa using hf.2.1
  have key : ∃ w', (Builtin.unsafeString_ #[t, t3] ty #[.pointer ad, Iv (n : Nat)]).run C.P w = .ok (Sv bs) w' ∧ Sat C.w0 C.B (HA.buf (.slice ad n cap) el n (bs.map Uv) :: R) w' := by
    rcases hf.2.2 with ⟨h0, rfl, rfl⟩ | ⟨h0, hc, g, cur, fz, rfl, hh, hfz, hnc, hcs, htake⟩
    · subst h0
      obtain rfl : bs = [] := List.eq_nil_of_length_eq_zero hbl
      exact ⟨w, run_unsafeString_none w t t3 ty none, hs1⟩
    · have hcell : ∀ j z, bs[j]? = some z → w.cell? ((⟨g, 0, none⟩ : Addr).add j) = some (.int .u8 z.toNat) := fun j z hj => hown.1.cells (g := g) rfl j _ (by simp [hj])
      have hr := run_unsafeString_row (P := C.P) w t t3 ty el hT hce g cur.size (by simp [World.shape?, hh]) bs (by intro e; subst e; simp at hbl; omega) (by omega) (by omega) hcell
      rw [hbl] at hr
      refine ⟨_, hr, ?_⟩
      have hsz : (w.freeze ⟨g, 0, none⟩ n).heap.size = w.heap.size := by unfold World.freeze; split <;> simp
      refine hs1.step (by unfold World.freeze; split <;> rfl) (by unfold World.freeze; split <;> rfl) (by unfold World.freeze; split <;> rfl) (by rw [hsz]; exact Nat.le_refl _) (fun k hk hn => ?_) (freeze_own hown rfl) (fun g' hg' => ?_) (by simp [HA.buf, Value.ownBlock])
      · have hkg : k ≠ g := fun e => hn (by simp [HA.buf, Value.ownBlock, e])
        unfold World.freeze
        split
        · rfl
        · simp only [Array.getElem?_modify]; rw [if_neg (Ne.symm hkg)]
      · have hgg : g' = g := by simpa [HA.buf, Value.ownBlock] using hg'
        subst hgg
        exact ⟨by rw [hsz]; exact (Array.getElem?_eq_some_iff.1 hh).1, .inl hg'⟩
  obtain ⟨w', hr, hs'⟩ := key
  have hrun : (execOp a.eval ⟨some d, .call { callee := .builtin .unsafeString, args := #[x, y], argTypes := #[t, t3] }, ty, pos, af, gd⟩).run C.P w = .ok (.value (Sv bs)) w' := by
    simp only [execOp, ha.1.ev hx, ha.1.ev hy, resolve, invoke, builtin, Sem.run_bind, Sem.run_pure, List.map_toArray, List.map_cons, List.map_nil, hr, Result.andThen]
  rw [hrun]
  exact k _ _ ⟨ha.1.put (by simpa using hd) _, hs'.perm p2.symm⟩
theorem run_equal_fn {P : Program} {t : Nat} {p1 p2 : Array TypeId} {vd : Bool} (hT : P.underlying t = some (.func p1 p2 vd)) (f : Fn) (r c : Array Value) (w : World) : (Op.equal t (.func f r c) .nilFunc).run P w = .ok false w := by
  have h : ∀ d : Nat, (Op.equalIn (d + 1) t (.func f r c) .nilFunc).run P w = .ok false w := fun d => by
    simp [Op.equalIn, run_underlying hT, Result.andThen]
  exact h 9999
theorem EL.eqlFn {p1 p2 : Array TypeId} {vd : Bool} {f : Fn} {r c : Array Value} (hg : guardOk all E gd = some true) (hx : E.ev x = some (.func f r c)) (hy : E.ev y = some .nilFunc) (hT : C.P.underlying t = some (.func p1 p2 vd)) (hd : Nat.blt d C.n = true)
    (k : EL C all ops Q ((d, .bool false) :: E) H) : EL C all (⟨some d, .binOp .eql t x y t', ty, pos, af, gd⟩ :: ops) Q E H :=
  EL.val _ hg rfl hd (by simp) (fun a w ha => by
    have h1 := run_equal_fn (P := C.P) hT f r c w
    have h2 : (if (!true) = true then (pure () : Sem Unit) else pure ()).run C.P w = .ok () w := rfl
    simp only [execOp, ha.1.ev hx, ha.1.ev hy, eqGuard, binOp, Sem.run_bind, Sem.run_pure, h2, h1, Result.andThen]) k
theorem EL.neqFn {p1 p2 : Array TypeId} {vd : Bool} {f : Fn} {r c : Array Value} (hg : guardOk all E gd = some true) (hx : E.ev x = some (.func f r c)) (hy : E.ev y = some .nilFunc) (hT : C.P.underlying t = some (.func p1 p2 vd)) (hd : Nat.blt d C.n = true)
    (k : EL C all ops Q ((d, .bool true) :: E) H) : EL C all (⟨some d, .binOp .neq t x y t', ty, pos, af, gd⟩ :: ops) Q E H :=
  EL.val _ hg rfl hd (by simp) (fun a w ha => by
    have h1 := run_equal_fn (P := C.P) hT f r c w
    have h2 : (if (!true) = true then (pure () : Sem Unit) else pure ()).run C.P w = .ok () w := rfl
    simp only [execOp, ha.1.ev hx, ha.1.ev hy, eqGuard, binOp, Sem.run_bind, Sem.run_pure, h2, h1, Result.andThen]
    rfl) k
/-- A pointer to a whole block, turned to unsafe.Pointer and back. -/
theorem RV.toUnsafe {ti tj te : TI} {el : TypeId} {cs : Array Value} {fr : Nat × Nat} {eb : Nat} (hx : E.ev x = some (Pv g 0)) (ht : C.T.f t = some ti) (hu : ti.u = .pointer el) (ht' : C.T.f t' = some tj) (hu' : tj.u = .unsafePointer) (hte : C.T.f el = some te) (hz : te.size ≠ 0) (hm : Mem H (HA.blk g (.cells cs eb fr))) (hc : 0 < cs.size) :
    RunV C E H ⟨some d, .convert t t' x, ty, pos, af, gd⟩ (Pv g 0) := fun a w ha => by
  have hT := (C.T.ok t ti ht).u
  rw [hu] at hT
  have hT' := (C.T.ok t' tj ht').u
  rw [hu'] at hT'
  obtain ⟨i, hi, _, hs, _⟩ := (C.T.ok el te hte).info
  have hb : w.heap[g]? = some (.cells cs eb fr) := ha.2.all _ hm.mem
  have := run_to_unsafe (P := C.P) w (src := t) (dst := t') (⟨g, 0, none⟩ : Addr) hT hT' hi (by rw [hs]; exact hz) (e := eb) (cells := cs.size) (by simp [World.shape?, hb]) hc
  simp only [execOp, ha.1.ev hx, Sem.run_bind, Sem.run_pure, this, Result.andThen]
theorem RV.fromUnsafe {ti tj te : TI} {el : TypeId} {cs : Array Value} {fr : Nat × Nat} {eb : Nat} (hx : E.ev x = some (Pv g 0)) (ht : C.T.f t = some ti) (hu : ti.u = .unsafePointer) (ht' : C.T.f t' = some tj) (hu' : tj.u = .pointer el) (hte : C.T.f el = some te) (hm : Mem H (HA.blk g (.cells cs eb fr))) (hl : liesAt C.P C.P.depth eb (cs.size / C.P.cellsOf eb) 0 el 1 = true) :
    RunV C E H ⟨some d, .convert t t' x, ty, pos, af, gd⟩ (Pv g 0) := fun a w ha => by
  have hT := (C.T.ok t ti ht).u
  rw [hu] at hT
  have hT' := (C.T.ok t' tj ht').u
  rw [hu'] at hT'
  obtain ⟨i, hi, _, hs, _⟩ := (C.T.ok el te hte).info
  have hb : w.heap[g]? = some (.cells cs eb fr) := ha.2.all _ hm.mem
  have := run_from_unsafe (P := C.P) w (src := t) (dst := t') (⟨g, 0, none⟩ : Addr) hT hT' hi (e := eb) (cells := cs.size) (by simp [World.shape?, hb]) hl
  simp only [execOp, ha.1.ev hx, Sem.run_bind, Sem.run_pure, this, Result.andThen]
theorem RV.neqPs {ti te : TI} {el : TypeId} {ad : Addr} (hx : E.ev x = some (.pointer (some ad))) (hy : E.ev y = some (.pointer (some ad))) (ht : C.T.f t = some ti) (hu : ti.u = .pointer el) (hte : C.T.f el = some te) :
    RunV C E H ⟨some d, .binOp .neq t x y t', ty, pos, af, gd⟩ (.bool false) := fun a w ha => by
  have hT := (C.T.ok t ti ht).u
  rw [hu] at hT
  obtain ⟨i, hi, _⟩ := (C.T.ok el te hte).info
  have := run_neq_ptr_same (P := C.P) w ad hT hi
  have h2 : (if (!true) = true then (pure () : Sem Unit) else pure ()).run C.P w = .ok () w := rfl
  simp only [execOp, ha.1.ev hx, ha.1.ev hy, eqGuard, Sem.run_bind, Sem.run_pure, Result.andThen, h2, this]
theorem RV.indexAddrLo {ti te : TI} {len cap : Nat} {el : TypeId} {kd : IntKind} {i : Nat} (hx : E.ev x = some (.slice (some ⟨g, off, none⟩) len cap)) (hy : E.ev y = some (.int kd (i : Nat))) (ht : C.T.f t = some ti) (hu : ti.u = .slice el) (hte : C.T.f el = some te) (hsz : Nat.beq te.size 1 = true) (hi : i < len) : RunV C E H ⟨some d, .indexAddr t x y, ty, pos, af, gd⟩ (Pv g (off + i)) := by
  have h := RV.indexAddrL (C := C) (E := E) (H := H) (d := d) (ty := ty) (pos := pos) (af := af) (gd := gd) hx hy ht hu hte hi
  rw [Nat.eq_of_beq_eq_true hsz, Nat.mul_one] at h
  exact h
theorem RV.addK {kd : IntKind} {m n : Nat} (hx : E.ev x = some (.int kd (m : Nat))) (hy : E.ev y = some (.int kd (n : Nat))) (hr : m + n ≤ kmax kd) : RunV C E H ⟨some d, .binOp .add t x y t', ty, pos, af, gd⟩ (.int kd ((m + n : Nat) : Int)) :=
  RV.add _ hx hy (wrap_of_le kd (m + n) hr)
theorem RV.subK {kd : IntKind} {m n : Nat} (hx : E.ev x = some (.int kd (m : Nat))) (hy : E.ev y = some (.int kd (n : Nat))) (hle : n ≤ m) (hr : m ≤ kmax kd) : RunV C E H ⟨some d, .binOp .sub t x y t', ty, pos, af, gd⟩ (.int kd ((m - n : Nat) : Int)) :=
  RV.sub_ _ hx hy (by rw [show (m : Int) - (n : Int) = ((m - n : Nat) : Int) by omega]; exact wrap_of_le kd (m - n) (by omega))
theorem RV.shrK {kd k2 : IntKind} {m s : Nat} (hx : E.ev x = some (.int kd (m : Nat))) (hy : E.ev y = some (.int k2 (s : Nat))) (hs : min s kd.bits = s) : RunV C E H ⟨some d, .binOp .shr t x y t', ty, pos, af, gd⟩ (.int kd ((m / 2 ^ s : Nat) : Int)) := fun a w ha => by
  have h3 : ¬ ((s : Int) < 0) := by omega
  have h4 : (m : Int).fdiv (2 ^ s) = ((m / 2 ^ s : Nat) : Int) := by
    have : ((2 : Int) ^ s) = ((2 ^ s : Nat) : Int) := by simp
    rw [this, Int.fdiv_eq_ediv_of_nonneg _ (Int.natCast_nonneg _)]
    exact (Int.natCast_ediv _ _).symm
  have h5 : (Op.shift .shr kd (m : Int) k2 (s : Int)).run C.P w = .ok (.int kd ((m / 2 ^ s : Nat) : Int)) w := by
    unfold Op.shift
    rw [if_neg h3]
    simp only [Int.toNat_natCast, hs]
    rw [h4]; rfl
  have h2 : (if (!false) = true then (pure () : Sem Unit) else pure ()).run C.P w = .ok () w := rfl
  simp only [execOp, ha.1.ev hx, ha.1.ev hy, eqGuard, binOp, Sem.run_bind, Sem.run_pure, Result.andThen, h2, h5]
theorem run_and7 (m : Nat) (hm : m < 256) (P : Program) (w : World) : (Op.intBits .and .u8 (m : Int) 7).run P w = .ok (.int .u8 ((m % 8 : Nat) : Int)) w := by
  have h1 := and_u8 (UInt8.ofNat m) 7 P w
  have h2 : (UInt8.ofNat m).toNat = m := by simp; omega
  have h3 : (UInt8.ofNat m &&& 7).toNat = m % 8 := by
    rw [UInt8.toNat_and, h2]
    exact Nat.and_two_pow_sub_one_eq_mod m 3
  rw [h2] at h1
  rw [show ((7 : UInt8).toNat : Int) = 7 from rfl] at h1
  rw [h1]
  show Result.ok (Value.int .u8 ((UInt8.ofNat m &&& 7).toNat : Int)) w = _
  rw [h3]
theorem EL.and7 {m : Nat} (hg : guardOk all E gd = some true) (hx : E.ev x = some (.int .u8 (m : Nat))) (hy : E.ev y = some (.int .u8 7)) (hm : m < 256) (hd : Nat.blt d C.n = true) (k : EL C all ops Q ((d, .int .u8 ((m % 8 : Nat) : Int)) :: E) H) : EL C all (⟨some d, .binOp .and t x y t', ty, pos, af, gd⟩ :: ops) Q E H :=
  EL.bits rfl _ hg hx hy hd (fun w => run_and7 m hm C.P w) k
abbrev nv (k : Nat) : Value := .int .u8 (k : Int)
theorem nvs_eq (ks : List Nat) (h : ∀ k ∈ ks, k < 256) : ks.map nv = (ks.map UInt8.ofNat).map Uv := by
  rw [List.map_map]
  refine List.map_congr_left fun k hk => ?_
  have : (UInt8.ofNat k).toNat = k := by have := h k hk; simp; omega
  show Value.int .u8 (k : Int) = Value.int .u8 ((UInt8.ofNat k).toNat : Int)
  rw [this]
theorem nv_cells (ks : List Nat) : ∀ u ∈ ks.map nv, u.cells = #[u] := by
  intro u hu
  obtain ⟨_, _, rfl⟩ := List.mem_map.1 hu
  rfl
end buffers
end Go.Proofs.YtgoopgnnkhpmlaaDoor.Sl
