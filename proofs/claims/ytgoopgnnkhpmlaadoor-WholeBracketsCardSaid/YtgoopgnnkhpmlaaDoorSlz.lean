/- THE BASE: one cell more onto a buffer whose head may be frozen. -/
import Derived.Test.YtgoopgnnkhpmlaaDoorSlv
namespace Go.Proofs.YtgoopgnnkhpmlaaDoor.Sl
open Go Go.RowKit Go.Lib
set_option linter.unusedVariables false
set_option linter.unusedSimpArgs false
theorem run_appendB1 {P : Program} (w : World) (t ty e : TypeId) (i : TypeInfo) (ht : P.underlying t = some (.slice e)) (hi : P.info? e = some i) (hz : i.zero = some (.int .u8 0)) (hsize : i.size = 1) (hby : i.bytes = 1)
    (v : Value) (n : Nat) (xs : List Value) (hown : ownsB w e v n xs) (a : Addr) (c : Nat) (u : Value) (hu : w.cell? a = some u) (h1 : u.oneCell' = true) (hbytes : n + 1 ≤ 140737488355328) :
    ∃ ad' cap' w', (Builtin.append_ #[t, t] ty #[v, .slice (some a) 1 c]).run P w = .ok (.slice ad' (n + 1) cap') w' ∧ ownsB w' e (.slice ad' (n + 1) cap') (n + 1) (xs ++ [u]) ∧ w.grownBy w' v.ownBlock ∧
      (∀ k, Value.ownBlock (.slice ad' (n + 1) cap') = some k → (some k = v.ownBlock ∨ w.heap.size ≤ k) ∧ k < w'.heap.size) := by
  have h63 : n + 1 ≤ maxLen := by unfold maxLen; omega
  have hnews : ∀ j u', [u][j]? = some u' → w.cell? (a.add j) = some u' := by
    intro j u' hj
    match j with
    | 0 =>
      have e : u = u' := by simpa using hj
      rw [← e, ← hu]; simp [Addr.add]
    | j + 1 => simp at hj
  have h1' : ∀ u' ∈ [u], u'.oneCell' = true := by simpa using h1
  have fin : ∀ (v' : Value) (w' : World), (Builtin.append_ #[t, t] ty #[v, .slice (some a) 1 c]).run P w = .ok v' w' → w'.ownsRowF 0 e 1 v' (n + 1) (xs ++ [u]) → w.grownBy w' v.ownBlock → (∀ k, v'.ownBlock = some k → (some k = v.ownBlock ∨ w.heap.size ≤ k)) →
      ∃ ad' cap' w', (Builtin.append_ #[t, t] ty #[v, .slice (some a) 1 c]).run P w = .ok (.slice ad' (n + 1) cap') w' ∧ ownsB w' e (.slice ad' (n + 1) cap') (n + 1) (xs ++ [u]) ∧ w.grownBy w' v.ownBlock ∧
      (∀ k, Value.ownBlock (.slice ad' (n + 1) cap') = some k → (some k = v.ownBlock ∨ w.heap.size ≤ k) ∧ k < w'.heap.size) := by
    intro v' w' hr ho hg hat
    obtain ⟨ad', cap', rfl⟩ : ∃ ad' cap', v' = .slice ad' (n + 1) cap' := by
      rcases ho.2 with ⟨h', h0⟩ | ⟨g', cap', cur, fz, hv, _⟩
      · omega
      · exact ⟨_, cap', hv⟩
    exact ⟨ad', cap', w', hr, ⟨ho, fun h => by omega⟩, hg, fun k hk => ⟨hat k hk, (ho.lt k hk).2⟩⟩
  rcases hown.1.2 with ⟨rfl, rfl⟩ | ⟨g, cap, cur, fz, rfl, hbg, hg, hfz, hnc, hcm, hcs, htake⟩
  · obtain rfl : xs = [] := List.eq_nil_of_length_eq_zero (by simpa using hown.1.1)
    obtain ⟨v', w', r1, r2, r3, r4⟩ := run_append_ownF (P := P) w w.heap.size t ty e i (.int .u8 0) 1 1 ht hi hz hsize hby rfl (by omega) (.slice none 0 0) 0 [] (World.ownsRowF_nil _ _ _ _) a 1 c [u] (by simp) hnews h1' h63 (by omega) (Nat.le_refl _)
    exact fin v' w' r1 (ownsRowF_zero r2) r3 (fun k hk => .inr (r2.lt k hk).1)
  · have hxl : xs.length = n := by simpa using hown.1.1
    have hlen : (xs ++ [u]).length = (n + 1) * 1 := by simp [hxl]
    by_cases hroom : n + 1 ≤ cap
    · have hcs' : cur.size = cap := by simpa using hcs
      have hr := run_append_roomF (P := P) w t ty e i ht hi g n cap cur fz hg (by simpa [hsize] using hfz) a 1 c [u] (by simp [hsize]) hnews h1' hroom (by simp [hsize]; omega)
      refine fin _ _ hr ⟨hlen, .inr ⟨g, cap, _, fz, rfl, Nat.zero_le _, setRow_heap w g cur _ e _ hg, by omega, hroom, hcm, ?_, ?_⟩⟩ ⟨rfl, rfl, rfl, by simp, fun k _ hk => setRow_other w g k _ (fun e => hk (by simp [Value.ownBlock, e]))⟩ (fun k hk => .inl (by rw [← hk]; rfl))
      · simp [hsize]
        omega
      · have ht' : cur.toList.take n = xs := by simpa using htake
        simp only [hsize, Nat.mul_one]
        rw [ht', ← Nat.mul_one (n + 1), ← hlen]
        exact List.take_left
    · have holds : ∀ j u, xs[j]? = some u → w.cell? ((⟨g, 0, none⟩ : Addr).add j) = some u := hown.1.cells (g := g) rfl
      have hr := run_append_grow (P := P) w t ty e i (.int .u8 0) ht hi hz ⟨g, 0, none⟩ n cap xs (by rw [hsize]; simpa using hxl) holds a 1 c [u] (by simp [hsize]) hnews (by omega) (by simp only [maxLen] at h63; omega) (by rw [hby]; exact growslice_fits (by omega) (by omega))
      have hge := grownCap_ge w (n + 1) cap e
      have hcm2 : grownCap w (n + 1) cap e ≤ maxLen := grownCap_le_maxLen w (n + 1) cap e h63
      refine fin _ _ hr ⟨hlen, .inr ⟨w.heap.size, _, _, (0, 0), rfl, Nat.zero_le _, heap_alloc_new w.drew _, Nat.zero_le _, hge, hcm2, ?_, ?_⟩⟩ ⟨rfl, rfl, rfl, by simp, fun k hk _ => alloc_old w.drew _ k hk⟩ (fun k hk => .inr (by simp only [Value.ownBlock, Option.some.injEq] at hk; omega))
      · have hz1 : (Value.int IntKind.u8 0).cells.size = 1 := rfl
        simp only [Array.size_append, List.size_toArray, size_zeroCells, hz1, hxl, List.length_cons, List.length_nil]
        omega
      · simp only [Array.toList_append, List.append_assoc]
        rw [← List.append_assoc, ← hlen]
        exact List.take_left
section buffers
variable {C : Cx} {all : Array Oper} {ops : List Oper} {Q : Qt} {E : Env} {H R : List HA} {d ty t : Nat} {pos : String} {af : Array Edge} {gd : Option (Nat × Bool)} {x y : Operand}
theorem EL.appendB1 {ti te : TI} {el : TypeId} {ad : Option Addr} {n cap g1 : Nat} {cs : List Value} {u : Value} (hg : guardOk all E gd = some true) (hx : E.ev x = some (.slice ad n cap)) (hy : E.ev y = some (.slice (some ⟨g1, 0, none⟩) 1 1)) (ht : C.T.f t = some ti) (hu : ti.u = .slice el) (hte : C.T.f el = some te)
    (hz1 : te.zero = .int .u8 0) (hs1 : te.size = 1) (hb1 : te.bytes = 1) (hd : Nat.blt d C.n = true) (hm : Mem H (HA.row (.slice (some ⟨g1, 0, none⟩) 1 1) el 1 1 [u])) (h1 : u.oneCell' = true) (p : Pick H (HA.buf (.slice ad n cap) el n cs) R) (hb : n + 1 ≤ 140737488355328)
    (k : ∀ ad' cap', EL C all ops Q ((d, .slice ad' (n + 1) cap') :: E) (HA.buf (.slice ad' (n + 1) cap') el (n + 1) (cs ++ [u]) :: R)) :
    EL C all (⟨some d, .call { callee := .builtin .append, args := #[x, y], argTypes := #[t, t] }, ty, pos, af, gd⟩ :: ops) Q E H := by
  intro a w ha
  simp only [wpListIn, guardOk_wanted (o := ⟨some d, .call { callee := .builtin .append, args := #[x, y], argTypes := #[t, t] }, ty, pos, af, gd⟩) hg ha.1, if_true]
  refine ⟨fun _ _ => trivial, ?_⟩
  rw [sem_plain (by simp)]
  have hT := (C.T.ok t ti ht).u
  rw [hu] at hT
  obtain ⟨i, hi, hz, hs, hby⟩ := (C.T.ok el te hte).info
  rw [hz1] at hz; rw [hs1] at hs; rw [hb1] at hby
  have hcell : w.cell? ⟨g1, 0, none⟩ = some u := row_cell (ha.2.all _ hm.mem) 0 u rfl
  have hs1' := ha.2.perm p.perm
  obtain ⟨ad', cap', w', hr, hown', hgr, hat⟩ := run_appendB1 (P := C.P) w t ty el i hT hi hz hs hby (.slice ad n cap) n cs hs1'.head ⟨g1, 0, none⟩ 1 u hcell h1 hb
  have hrun : (execOp a.eval ⟨some d, .call { callee := .builtin .append, args := #[x, y], argTypes := #[t, t] }, ty, pos, af, gd⟩).run C.P w = .ok (.value (.slice ad' (n + 1) cap')) w' := by
    simp only [execOp, ha.1.ev hx, ha.1.ev hy, resolve, invoke, builtin, Sem.run_bind, Sem.run_pure, List.map_toArray, List.map_cons, List.map_nil, hr, Result.andThen]
  rw [hrun]
  refine k ad' cap' _ _ ⟨ha.1.put (by simpa using hd) _, ?_⟩
  refine hs1'.turned hgr (fun k hk => by simp [HA.buf, hk]) hown' (fun g hg => ?_) ?_
  · have hg' : Value.ownBlock (.slice ad' (n + 1) cap') = some g := by simpa [HA.buf] using hg
    obtain ⟨h1, h2⟩ := hat g hg'
    refine ⟨h2, ?_⟩
    rcases h1 with h1 | h1
    · left; simp [HA.buf, ← h1]
    · exact .inr h1
  · show (Value.ownBlock (.slice ad' (n + 1) cap')).toList.Nodup
    cases Value.ownBlock (.slice ad' (n + 1) cap') <;> simp
/-- string(buffer). -/
theorem EL.bytesB {ti ts te : TI} {el : TypeId} {ad : Option Addr} {n cap : Nat} {bs : List UInt8} (hg : guardOk all E gd = some true) (hx : E.ev x = some (.slice ad n cap)) (ht : C.T.f t = some ti) (hu : ti.u = .slice el) (hte : C.T.f el = some te) (hue : te.u = .int .u8) {t2 : Nat} (hts : C.T.f t2 = some ts) (hus : ts.u = .string) (hd : Nat.blt d C.n = true)
    (hm : Mem H (HA.buf (.slice ad n cap) el n (bs.map Uv))) (k : EL C all ops Q ((d, Sv bs) :: E) H) : EL C all (⟨some d, .convert t t2 x, ty, pos, af, gd⟩ :: ops) Q E H :=
  EL.val _ hg rfl hd (by simp) (fun a w ha => by
    have hT := (C.T.ok t ti ht).u
    rw [hu] at hT
    have hE := (C.T.ok el te hte).u
    rw [hue] at hE
    have hS := (C.T.ok t2 ts hts).u
    rw [hus] at hS
    have hown : ownsB w el (.slice ad n cap) n (bs.map Uv) := ha.2.all _ hm.mem
    have hf := buf_form hown
    have hln : bs.length = n := by simpa using hf.2.1
    have : (convert t t2 (.slice ad n cap)).run C.P w = .ok (Sv bs) w := by
      rcases hf.2.2 with ⟨h0, rfl, rfl⟩ | ⟨h0, hc, g, cur, fz, rfl, hh, hfz, hnc, hcs, htake⟩
      · subst h0
        obtain rfl : bs = [] := List.eq_nil_of_length_eq_zero hln
        exact run_convert_bytes_nil (P := C.P) w t el hT hE 0 0 t2 hS
      · have hcell : ∀ j z, (bs.map Uv)[j]? = some z → w.cell? ((⟨g, 0, none⟩ : Addr).add j) = some z := hown.1.cells (g := g) rfl
        have hc := run_convert_bytes_arg (P := C.P) w t el hT hE g 0 n cap (bs.map fun b => (b.toNat : Int)) (by simp [hln]) (fun i hi => by
          rw [Nat.zero_add]
          have := hcell i (Uv (bs.getD i 0)) (by simp [List.getElem?_eq_getElem (show i < bs.length by omega), List.getD_eq_getElem?_getD])
          rw [add_n, Nat.zero_add] at this
          rw [this]
          simp [List.getElem?_eq_getElem (show i < bs.length by omega), List.getD_eq_getElem?_getD]) t2 hS
        rw [hc]
        simp only [strOfNums, List.map_map]
        congr 3
        apply congrArg List.toArray
        conv => rhs; rw [← List.map_id bs]
        apply List.map_congr_left
        intro b _
        simp
    simp [execOp, ha.1.ev hx, this, Result.andThen]) k
/-- s[lo:]. -/
theorem EL.sliceLo {ti te : TI} {el lo n cap : Nat} {ad : Option Addr} {kd : IntKind} (hg : guardOk all E gd = some true) (hx : E.ev x = some (.slice ad n cap)) (hy : E.ev y = some (.int kd (lo : Nat))) (ht : C.T.f t = some ti) (hu : ti.u = .slice el) (hte : C.T.f el = some te) (hs1 : te.size = 1) (hd : Nat.blt d C.n = true) (hlo : lo ≤ n) (hn : n ≤ cap)
    (k : ∀ ad', (lo < n → ad' = ad.map (·.add lo)) → EL C all ops Q ((d, .slice ad' (n - lo) (cap - lo)) :: E) H) : EL C all (⟨some d, .slice t x (some y) none none, ty, pos, af, gd⟩ :: ops) Q E H :=
  EL.val (.slice (if cap = lo then ad else ad.map (·.add lo)) (n - lo) (cap - lo)) hg rfl hd (by simp) (fun a w ha => by
    have hT := (C.T.ok t ti ht).u
    rw [hu] at hT
    have hI := (C.T.ok el te hte).runInfo w
    rw [hs1] at hI
    have h1 : lo ≤ cap := by omega
    simp [execOp, ha.1.ev hx, ha.1.ev hy, Instr.sliceAt, Instr.slice, Instr.sliceBounds, Instr.sliceBound, asIntOf, run_underlying hT, hI.1, Result.andThen, h1, hlo]) (k _ (fun h => if_neg (by omega)))
end buffers
theorem Rd.sliceLo {w : World} {B lo n : Nat} {ad ad' : Option Addr} {cs : List Value} (h : Rd w B ad cs) (hl : cs.length = n) (h' : lo < n → ad' = ad.map (·.add lo)) : Rd w B ad' (cs.drop lo) := by
  intro hne
  have hlt : lo < n := by
    rcases Nat.lt_or_ge lo n with h1 | h1
    · exact h1
    · exact absurd (List.drop_eq_nil_of_le (by omega)) hne
  obtain ⟨g, off, h1, h2, h3⟩ := h (by intro e; subst e; simp at hne)
  refine ⟨g, off + lo, by rw [h' hlt, h1]; simp [Addr.add], h2, fun j v hj => ?_⟩
  rw [List.getElem?_drop] at hj
  rw [Nat.add_assoc]
  exact h3 _ v hj
end Go.Proofs.YtgoopgnnkhpmlaaDoor.Sl
