/- THE BASE, fourth part: rows, appends, calls, a function's begin and end. -/
import Derived.Test.YtgoopgnnkhpmlaaDoorSlc
import Derived.Shelf.Abstract
namespace Go.Proofs.YtgoopgnnkhpmlaaDoor.Sl
open Go Go.RowKit
set_option linter.unusedVariables false
set_option linter.unusedSimpArgs false

section rows
variable {C : Cx} {all : Array Oper} {ops : List Oper} {Q : Qt} {E : Env} {H H' : List HA} {d ty : Nat} {pos : String} {af : Array Edge} {gd : Option (Nat × Bool)} {x y z : Operand} {v u : Value} {t e g off : Nat}

theorem ownsRow_store {w : World} {len cap n : Nat} {cs : List Value} {sz : Nat} (h : w.ownsRow 0 e sz (.slice (some ⟨g, 0, none⟩) len cap) n cs) (i : Nat) (u : Value) :
    (w.setCell ⟨g, i, none⟩ u).ownsRow 0 e sz (.slice (some ⟨g, 0, none⟩) len cap) n (cs.set i u) := by
  obtain ⟨hl, h2⟩ := h
  refine ⟨by simpa using hl, ?_⟩
  rcases h2 with ⟨h', _⟩ | ⟨g', cap', cur, hv, hb, hh, r1, r2, r3, r4⟩
  · cases h'
  · have hv' := hv
    simp only [Value.slice.injEq, Option.some.injEq, Addr.mk.injEq] at hv'
    obtain ⟨⟨rfl, _⟩, rfl, rfl⟩ := hv'
    refine .inr ⟨g, cap, cur.setIfInBounds i u, rfl, hb, setCell_blk hh u, r1, r2, by simpa using r3, ?_⟩
    subst r4
    simp [List.take_set]
theorem Sat.setRow {w0 : World} {B : Nat} {w : World} {len cap n sz : Nat} {cs : List Value} (hs : Sat w0 B H w) (p : PickSet H (HA.row (.slice (some ⟨g, 0, none⟩) len cap) e sz n cs) (HA.row (.slice (some ⟨g, 0, none⟩) len cap) e sz n (cs.set off u)) H') : Sat w0 B H' (w.setCell ⟨g, off, none⟩ u) := by
  obtain ⟨R, p1, p2⟩ := p.split
  have h1 := hs.perm p1
  have hb : w.ownsRow 0 e sz (.slice (some ⟨g, 0, none⟩) len cap) n cs := h1.head
  have hfp : (HA.row (.slice (some ⟨g, 0, none⟩) len cap) e sz n cs).fp = [g] := by simp [HA.row, Value.ownBlock]
  have hfp' : (HA.row (.slice (some ⟨g, 0, none⟩) len cap) e sz n (cs.set off u)).fp = [g] := by simp [HA.row, Value.ownBlock]
  have hlt : g < w.heap.size := (h1.lo g (by rw [fps_cons, hfp]; simp)).2
  refine Sat.perm (H := HA.row (.slice (some ⟨g, 0, none⟩) len cap) e sz n (cs.set off u) :: R) ?_ p2.symm
  refine h1.step rfl rfl rfl (by simp [World.setCell]) (fun k _ hk => Below.heap_setCell w _ u k (by rw [hfp] at hk; simpa using hk)) (ownsRow_store hb off u) (fun g' hg' => ?_) (by rw [hfp']; simp)
  rw [hfp'] at hg'
  simp only [List.mem_singleton] at hg'
  subst hg'
  exact ⟨by simpa [World.setCell] using hlt, .inl (by rw [hfp]; simp)⟩
theorem row_cur {w : World} {len cap n sz : Nat} {cs : List Value} (h : w.ownsRow 0 e sz (.slice (some ⟨g, 0, none⟩) len cap) n cs) : ∃ cur : Array Value, w.heap[g]? = some (.cells cur e (0, 0)) ∧ cs.length ≤ cur.size := by
  rcases h.2 with ⟨h', _⟩ | ⟨g', cap', cur, hv, hb, hh, r1, r2, r3, r4⟩
  · cases h'
  · simp only [Value.slice.injEq, Option.some.injEq, Addr.mk.injEq] at hv
    obtain ⟨⟨rfl, _⟩, rfl, rfl⟩ := hv
    refine ⟨cur, hh, ?_⟩
    subst r4
    simp [List.length_take]; omega
theorem EL.storeR {ti : TI} {len cap n sz : Nat} {cs : List Value} (hg : guardOk all E gd = some true) (hx : E.ev x = some (Pv g off)) (hy : E.ev y = some u) (hu : u.oneCell' = true) (ht : C.T.f t = some ti) (hsz : Nat.beq ti.size 1 = true)
    (p : PickSet H (HA.row (.slice (some ⟨g, 0, none⟩) len cap) e sz n cs) (HA.row (.slice (some ⟨g, 0, none⟩) len cap) e sz n (cs.set off u)) H') (hi : off < cs.length) (k : EL C all ops Q E H') : EL C all (⟨none, .store t x y, ty, pos, af, gd⟩ :: ops) Q E H :=
  EL.unit hg rfl (by simp) (fun a w ha => by
    have hT := ((C.T.ok t ti ht).runInfo w)
    obtain ⟨cur, hb, hl⟩ : ∃ cur : Array Value, w.heap[g]? = some (.cells cur e (0, 0)) ∧ cs.length ≤ cur.size := by
      obtain ⟨R, p1, p2⟩ := p.split
      exact row_cur (ha.2.perm p1).head
    have hz : ti.size = 1 := Nat.eq_of_beq_eq_true hsz
    have hi2 : off < cur.size := by omega
    refine ⟨_, ?_, ha.2.setRow p⟩
    simp [execOp, ha.1.ev hx, ha.1.ev hy, Instr.storeAt, Instr.sureAddr, storeVar, hT.1, hz, cells_one hu, storeCells, add_zero', run_store1 hb C.P hu hi2, Result.andThen]) k
def HA.emp : HA := ⟨[], fun _ => True, fun _ _ _ _ => trivial⟩
theorem Sat.emp {w0 : World} {B : Nat} {w : World} (hs : Sat w0 B H w) : Sat w0 B (HA.emp :: H) w :=
  ⟨hs.below, hs.base, by rw [fps_cons]; simpa [HA.emp] using hs.nodup, fun g hg => hs.lo g (by rw [fps_cons] at hg; simpa [HA.emp] using hg), fun A hA => by rcases List.mem_cons.1 hA with rfl | h; exact trivial; exact hs.all A h⟩
/-- Behind a law that ends in 'grownBy': what is new is owned. -/
theorem Sat.fresh {w0 : World} {B : Nat} {w w' : World} (hs : Sat w0 B H w) (hg : w.grownBy w' none) (A : HA) (hA : A.holds w') (hf : ∀ g ∈ A.fp, w.heap.size ≤ g ∧ g < w'.heap.size) (hn : A.fp.Nodup) : Sat w0 B (A :: H) w' :=
  hs.emp.step hg.os hg.tape hg.output hg.size (fun k hk _ => hg.block k hk (by simp)) hA (fun g h => ⟨(hf g h).2, .inr (hf g h).1⟩) hn
theorem Sat.quiet {w0 : World} {B : Nat} {w w' : World} (hs : Sat w0 B H w) (hg : w.grownBy w' none) : Sat w0 B H w' := (hs.fresh hg HA.emp trivial (by simp [HA.emp]) (by simp [HA.emp])).tail
theorem Sat.turned {w0 : World} {B : Nat} {w w' : World} {A A' : HA} {R : List HA} {row : Option Nat} (hs : Sat w0 B (A :: R) w) (hg : w.grownBy w' row) (hr : ∀ k, row = some k → k ∈ A.fp) (hA : A'.holds w') (hf : ∀ g ∈ A'.fp, g < w'.heap.size ∧ (g ∈ A.fp ∨ w.heap.size ≤ g)) (hn : A'.fp.Nodup) : Sat w0 B (A' :: R) w' :=
  hs.step hg.os hg.tape hg.output hg.size (fun k hk hm => hg.block k hk (fun e => hm (hr k e.symm))) hA hf hn
/-- The nil slice owns nothing. -/
theorem Sat.nilRow {w0 : World} {B : Nat} {w : World} (hs : Sat w0 B H w) (e sz : Nat) : Sat w0 B (HA.row (.slice none 0 0) e sz 0 [] :: H) w :=
  ⟨hs.below, hs.base, by rw [fps_cons]; simpa [HA.row, Value.ownBlock] using hs.nodup, fun g hg => hs.lo g (by rw [fps_cons] at hg; simpa [HA.row, Value.ownBlock] using hg), fun A hA => by rcases List.mem_cons.1 hA with rfl | h; exact World.ownsRow_nil _ _ _ _; exact hs.all A h⟩
theorem EL.nilRow (e sz : Nat) (k : EL C all ops Q E (HA.row (.slice none 0 0) e sz 0 [] :: H)) : EL C all ops Q E H := fun a w h => k a w ⟨h.1, h.2.nilRow e sz⟩
theorem ES.nilRow {cs : List Code} (e sz : Nat) (k : ES C cs Q E (HA.row (.slice none 0 0) e sz 0 [] :: H)) : ES C cs Q E H := fun a w h => k a w ⟨h.1, h.2.nilRow e sz⟩
theorem row_form {w : World} {e sz len cap n : Nat} {ad : Option Addr} {cs : List Value} (h : w.ownsRow 0 e sz (.slice ad len cap) n cs) : len = n ∧ n ≤ cap ∧ cap ≤ maxLen ∧ cs.length = n * sz ∧ (0 < n → ∃ g, ad = some ⟨g, 0, none⟩) := by
  obtain ⟨hl, h2⟩ := h
  rcases h2 with ⟨h', rfl⟩ | ⟨g', cap', cur, hv, hb, hh, r1, r2, r3, r4⟩
  · simp only [Value.slice.injEq] at h'
    obtain ⟨rfl, rfl, rfl⟩ := h'
    exact ⟨rfl, Nat.le_refl _, Nat.zero_le _, hl, fun h => absurd h (by omega)⟩
  · simp only [Value.slice.injEq] at hv
    obtain ⟨rfl, rfl, rfl⟩ := hv
    exact ⟨rfl, r1, r2, hl, fun _ => ⟨_, rfl⟩⟩
/-- What a row's value looks like. -/
theorem EL.rowForm {len cap n sz : Nat} {ad : Option Addr} {cs : List Value} (hm : Mem H (HA.row (.slice ad len cap) e sz n cs)) (k : len = n ∧ n ≤ cap ∧ cap ≤ maxLen ∧ cs.length = n * sz ∧ (0 < n → ∃ g, ad = some ⟨g, 0, none⟩) → EL C all ops Q E H) : EL C all ops Q E H :=
  fun a w h => k (row_form (h.2.all _ hm.mem)) a w h
theorem ES.rowForm {cds : List Code} {len cap n sz : Nat} {ad : Option Addr} {cs : List Value} (hm : Mem H (HA.row (.slice ad len cap) e sz n cs)) (k : len = n ∧ n ≤ cap ∧ cap ≤ maxLen ∧ cs.length = n * sz ∧ (0 < n → ∃ g, ad = some ⟨g, 0, none⟩) → ES C cds Q E H) : ES C cds Q E H :=
  fun a w h => k (row_form (h.2.all _ hm.mem)) a w h
/-- make([]T, n). -/
theorem EL.makeSlice {ti te : TI} {el : TypeId} {n : Nat} (hg : guardOk all E gd = some true) (hx : E.ev x = some (Iv (n : Nat))) (ht : C.T.f t = some ti) (hu : ti.u = .slice el) (hte : C.T.f el = some te) (hd : Nat.blt d C.n = true)
    (hn : te.bytes * n ≤ 281474976710656) (hm : n ≤ maxLen)
    (k : ∀ g, EL C all ops Q ((d, .slice (some ⟨g, 0, none⟩) n n) :: E) (HA.row (.slice (some ⟨g, 0, none⟩) n n) el te.size n (madeCells te.zero.cells (n * te.size)).toList :: H)) :
    EL C all (⟨some d, .makeSlice t x x, ty, pos, af, gd⟩ :: ops) Q E H := by
  intro a w ha
  simp only [wpListIn, guardOk_wanted (o := ⟨some d, .makeSlice t x x, ty, pos, af, gd⟩) hg ha.1, if_true]
  refine ⟨fun _ _ => trivial, ?_⟩
  rw [sem_plain (by simp)]
  have hT := (C.T.ok t ti ht).u
  rw [hu] at hT
  obtain ⟨i, hi, hz, hs, hb⟩ := (C.T.ok el te hte).info
  obtain ⟨w', hr, hown, hgr⟩ := run_make_full (P := C.P) w 0 t el i te.zero te.size hT hi hz hs .i64 .i64 n (by rw [hb]; exact hn) hm (by omega)
  have hlt : w.heap.size < w'.heap.size := by
    rcases hown.2 with ⟨h', _⟩ | ⟨g', cap', cur, hv, _, hh, _⟩
    · cases h'
    · simp only [Value.slice.injEq, Option.some.injEq, Addr.mk.injEq] at hv
      obtain ⟨⟨rfl, _⟩, _⟩ := hv
      exact (Array.getElem?_eq_some_iff.1 hh).1
  have hrun : (execOp a.eval ⟨some d, .makeSlice t x x, ty, pos, af, gd⟩).run C.P w = .ok (.value (.slice (some ⟨w.heap.size, 0, none⟩) n n)) w' := by
    simp [execOp, ha.1.ev hx, hr, Result.andThen]
  rw [hrun]
  exact k w.heap.size _ _ ⟨ha.1.put (by simpa using hd) _, ha.2.fresh hgr (HA.row (.slice (some ⟨w.heap.size, 0, none⟩) n n) el te.size n _) hown (by simp [HA.row, Value.ownBlock]; exact hlt) (by simp [HA.row, Value.ownBlock])⟩
/-- []T{x}: one element. -/
theorem EL.buildSlice1 {ti te : TI} {el : TypeId} (hg : guardOk all E gd = some true) (hx : E.ev x = some u) (ht : C.T.f t = some ti) (hu : ti.u = .slice el) (hte : C.T.f el = some te) (hd : Nat.blt d C.n = true)
    (hsz : u.cells.size = te.size) (hz1 : te.zero.cells.size = te.size) (hpos : Nat.blt 0 te.size = true) (hsm : Nat.ble te.size 16777216 = true)
    (k : ∀ g, EL C all ops Q ((d, .slice (some ⟨g, 0, none⟩) 1 1) :: E) (HA.row (.slice (some ⟨g, 0, none⟩) 1 1) el te.size 1 u.cells.toList :: H)) :
    EL C all (⟨some d, .buildSlice t 1 #[(0, x)], ty, pos, af, gd⟩ :: ops) Q E H := by
  intro a w ha
  simp only [wpListIn, guardOk_wanted (o := ⟨some d, .buildSlice t 1 #[(0, x)], ty, pos, af, gd⟩) hg ha.1, if_true]
  refine ⟨fun _ _ => trivial, ?_⟩
  rw [sem_plain (by simp)]
  have hT := (C.T.ok t ti ht).u
  rw [hu] at hT
  have hI := (C.T.ok el te hte).runInfo w
  have hp : 0 < te.size := by simpa using hpos
  have hsm' : te.size ≤ 16777216 := Nat.le_of_ble_eq_true hsm
  have hfill : Instr.fill (fun i => some (i * te.size, te.size)) ((Array.range te.size).map (te.zero.cells[· % te.zero.cells.size]!)) [(0, u)] = some u.cells := by
    simp only [Instr.fill, hsz, Nat.zero_mul, Nat.zero_add, Array.size_map, Array.size_range, ne_eq, not_true_eq_false, decide_false, Bool.false_or, Nat.lt_irrefl, gt_iff_lt, Bool.false_eq_true, if_false]
    congr 1
    have key : ∀ (l : List Value) (k : Nat) (acc : Array Value), k + l.length = acc.size → (l.zipIdx k).foldl (fun cs (p : Value × Nat) => cs.setIfInBounds p.2 p.1) acc = acc.extract 0 k ++ l.toArray := by
      intro l
      induction l with
      | nil => intro k acc h; simp only [List.length_nil, Nat.add_zero] at h; subst h; simp
      | cons c l ih =>
        intro k acc h
        simp only [List.zipIdx_cons, List.foldl_cons]
        rw [ih (k + 1) _ (by simp at h ⊢; omega)]
        apply Array.ext'
        simp only [Array.toList_append, Array.toList_extract, Array.toList_setIfInBounds, List.extract_eq_take_drop, List.drop_zero, Nat.sub_zero]
        simp only [List.length_cons] at h
        rw [List.take_succ_eq_append_getElem (by simp; omega)]
        simp [List.take_set_of_le]
    have h2 := key u.cells.toList 0 ((Array.range te.size).map (te.zero.cells[· % te.zero.cells.size]!)) (by simp [hsz])
    simp only [Array.extract_zero] at h2
    rw [← Array.foldl_toList]
    simp only [Array.toList_zipIdx]
    rw [h2]
    simp
  have hrun : (execOp a.eval ⟨some d, .buildSlice t 1 #[(0, x)], ty, pos, af, gd⟩).run C.P w = .ok (.value (.slice (some ⟨w.heap.size, 0, none⟩) 1 1)) (w.alloc (.cells u.cells el)) := by
    have hne : te.size ≠ 0 := by omega
    have hgt : ¬ 16777216 < te.size := by omega
    simp [execOp, ha.1.ev hx, Instr.buildSlice, run_underlying hT, hI.1, hI.2.1, hne, hgt, Result.andThen, newRow, hfill]
  rw [hrun]
  refine k w.heap.size _ _ ⟨ha.1.put (by simpa using hd) _, ha.2.fresh (World.grownBy_alloc w _ none) (HA.row (.slice (some ⟨w.heap.size, 0, none⟩) 1 1) el te.size 1 _) ?_ (by simp [HA.row, Value.ownBlock]) (by simp [HA.row, Value.ownBlock])⟩
  exact ⟨by simp [hsz], .inr ⟨w.heap.size, 1, u.cells, rfl, Nat.zero_le _, heap_alloc_new w _, Nat.le_refl _, by simp [maxLen], by simp [hsz], by rw [Nat.one_mul, List.take_of_length_le (by simp [hsz])]⟩⟩
/-- append(s, xs...): s a slice of one's own, xs a slice that reads as 'news'. -/
theorem EL.append {ti te : TI} {el : TypeId} {ad : Option Addr} {b : Addr} {n cap m c : Nat} {cs news : List Value} {R : List HA} (hg : guardOk all E gd = some true) (hx : E.ev x = some (.slice ad n cap)) (hy : E.ev y = some (.slice (some b) m c)) (ht : C.T.f t = some ti) (hu : ti.u = .slice el) (hte : C.T.f el = some te)
    (hz1 : te.zero.cells.size = te.size) (hpos : Nat.blt 0 te.size = true) (hd : Nat.blt d C.n = true) (p : Pick H (HA.row (.slice ad n cap) el te.size n cs) R) (hl : news.length = m * te.size) (hm0 : 0 < m)
    (hnews : ∀ w, Sat C.w0 C.B H w → (∀ j u, news[j]? = some u → w.cell? (b.add j) = some u)) (h1 : ∀ u ∈ news, u.oneCell' = true)
    (h63 : n + m ≤ maxLen) (hbytes : (n + m) * te.bytes ≤ 140737488355328)
    (k : ∀ g' cap', EL C all ops Q ((d, .slice (some ⟨g', 0, none⟩) (n + m) cap') :: E) (HA.row (.slice (some ⟨g', 0, none⟩) (n + m) cap') el te.size (n + m) (cs ++ news) :: R)) :
    EL C all (⟨some d, .call { callee := .builtin .append, args := #[x, y], argTypes := #[t, t] }, ty, pos, af, gd⟩ :: ops) Q E H := by
  intro a w ha
  simp only [wpListIn, guardOk_wanted (o := ⟨some d, .call { callee := .builtin .append, args := #[x, y], argTypes := #[t, t] }, ty, pos, af, gd⟩) hg ha.1, if_true]
  refine ⟨fun _ _ => trivial, ?_⟩
  rw [sem_plain (by simp)]
  have hT := (C.T.ok t ti ht).u
  rw [hu] at hT
  obtain ⟨i, hi, hz, hs, hb⟩ := (C.T.ok el te hte).info
  have hs1 := ha.2.perm p.perm
  have hown : w.ownsRow 0 el te.size (.slice ad n cap) n cs := hs1.head
  have hp : 0 < te.size := by simpa using hpos
  obtain ⟨v', w', hr, hown', hgr, hnil, hat⟩ := run_append_own_at (P := C.P) w 0 t ty el i te.zero te.size te.bytes hT hi hz hs hb hz1 hp (.slice ad n cap) n cs hown b m c news hl (hnews w ha.2) h1 h63 hbytes (by omega)
  obtain ⟨g', cap', rfl⟩ : ∃ g' cap', v' = .slice (some ⟨g', 0, none⟩) (n + m) cap' := by
    rcases hown'.2 with ⟨h', h0⟩ | ⟨g', cap', cur, hv, _⟩
    · omega
    · exact ⟨g', cap', hv⟩
  have hrun : (execOp a.eval ⟨some d, .call { callee := .builtin .append, args := #[x, y], argTypes := #[t, t] }, ty, pos, af, gd⟩).run C.P w = .ok (.value (.slice (some ⟨g', 0, none⟩) (n + m) cap')) w' := by
    simp [execOp, ha.1.ev hx, ha.1.ev hy, resolve, invoke, builtin, hr, Result.andThen]
  rw [hrun]
  have hlt : g' < w'.heap.size := by
    rcases hown'.2 with ⟨h', h0⟩ | ⟨g1, cap1, cur, hv, _, hh, _⟩
    · omega
    · simp only [Value.slice.injEq, Option.some.injEq, Addr.mk.injEq] at hv
      obtain ⟨⟨rfl, _⟩, _⟩ := hv
      exact (Array.getElem?_eq_some_iff.1 hh).1
  refine k g' cap' _ _ ⟨ha.1.put (by simpa using hd) _, ?_⟩
  refine hs1.turned hgr (fun k hk => by simp [HA.row, hk]) hown' (fun g hg => ?_) (by simp [HA.row, Value.ownBlock])
  simp only [HA.row, Value.ownBlock, Option.toList_some, List.mem_singleton] at hg
  subst hg
  refine ⟨hlt, ?_⟩
  rcases hat with hat | hat
  · left
    have hat' : Value.ownBlock (.slice ad n cap) = some g := hat.symm
    simp [HA.row, hat']
  · right
    simp only [Value.ownBlock, Option.some.injEq] at hat
    omega
theorem row_news {w0 : World} {B : Nat} {w : World} {len cap n sz : Nat} {cs : List Value} (hs : Sat w0 B H w) (hm : Mem H (HA.row (.slice (some ⟨g, 0, none⟩) len cap) e sz n cs)) : ∀ j u, cs[j]? = some u → w.cell? ((⟨g, 0, none⟩ : Addr).add j) = some u := by
  intro j u hj
  rw [add_n, Nat.zero_add]
  exact row_cell (hs.all _ hm.mem) j u hj
/-- append(s, x), where x has just been laid in a new row of one element. -/
theorem EL.append1 {ti te : TI} {el : TypeId} {ad : Option Addr} {g1 n cap : Nat} {cs news : List Value} {R : List HA} (hg : guardOk all E gd = some true) (hx : E.ev x = some (.slice ad n cap)) (hy : E.ev y = some (.slice (some ⟨g1, 0, none⟩) 1 1)) (ht : C.T.f t = some ti) (hu : ti.u = .slice el) (hte : C.T.f el = some te)
    (hz1 : te.zero.cells.size = te.size) (hpos : Nat.blt 0 te.size = true) (hd : Nat.blt d C.n = true) (hm : Mem H (HA.row (.slice (some ⟨g1, 0, none⟩) 1 1) el te.size 1 news)) (p : Pick H (HA.row (.slice ad n cap) el te.size n cs) R) (h1 : ∀ u ∈ news, u.oneCell' = true)
    (hl : news.length = te.size) (h63 : n + 1 ≤ maxLen) (hbytes : (n + 1) * te.bytes ≤ 140737488355328)
    (k : ∀ g' cap', EL C all ops Q ((d, .slice (some ⟨g', 0, none⟩) (n + 1) cap') :: E) (HA.row (.slice (some ⟨g', 0, none⟩) (n + 1) cap') el te.size (n + 1) (cs ++ news) :: R)) :
    EL C all (⟨some d, .call { callee := .builtin .append, args := #[x, y], argTypes := #[t, t] }, ty, pos, af, gd⟩ :: ops) Q E H :=
  EL.append (m := 1) hg hx hy ht hu hte hz1 hpos hd p (by simpa using hl) (by omega) (fun w hs => row_news hs hm) h1 h63 hbytes k
/-- string(bs). -/
theorem EL.bytesS {ti ts te : TI} {el : TypeId} {ad : Option Addr} {n cap : Nat} {bs : List UInt8} (hg : guardOk all E gd = some true) (hx : E.ev x = some (.slice ad n cap)) (ht : C.T.f t = some ti) (hu : ti.u = .slice el) (hte : C.T.f el = some te) (hue : te.u = .int .u8) {t2 : Nat} (hts : C.T.f t2 = some ts) (hus : ts.u = .string) (hd : Nat.blt d C.n = true)
    (hm : Mem H (HA.row (.slice ad n cap) el 1 n (bs.map Uv))) (k : EL C all ops Q ((d, Sv bs) :: E) H) : EL C all (⟨some d, .convert t t2 x, ty, pos, af, gd⟩ :: ops) Q E H :=
  EL.val _ hg rfl hd (by simp) (fun a w ha => by
    have hT := (C.T.ok t ti ht).u
    rw [hu] at hT
    have hE := (C.T.ok el te hte).u
    rw [hue] at hE
    have hS := (C.T.ok t2 ts hts).u
    rw [hus] at hS
    have hown := ha.2.all _ hm.mem
    obtain ⟨_, _, _, hl, hform⟩ := row_form hown
    have hln : bs.length = n := by simpa using hl
    have : (convert t t2 (.slice ad n cap)).run C.P w = .ok (Sv bs) w := by
      by_cases h0 : 0 < n
      · obtain ⟨g, rfl⟩ := hform h0
        have hc := run_convert_bytes_arg (P := C.P) w t el hT hE g 0 n cap (bs.map fun b => (b.toNat : Int)) (by simp [hln]) (fun i hi => by
          rw [Nat.zero_add]
          refine row_cell hown i _ ?_
          simp [List.getElem?_eq_getElem (show i < bs.length by omega), List.getD_eq_getElem?_getD]) t2 hS
        rw [hc]
        simp only [strOfNums, List.map_map]
        congr 3
        apply congrArg List.toArray
        conv => rhs; rw [← List.map_id bs]
        apply List.map_congr_left
        intro b _
        simp
      · have hn0 : n = 0 := by omega
        subst hn0
        obtain rfl : bs = [] := List.eq_nil_of_length_eq_zero hln
        cases ad with
        | none => exact run_convert_bytes_nil (P := C.P) w t el hT hE 0 cap t2 hS
        | some b => 
          rcases hown.2 with ⟨h', _⟩ | ⟨g', cap', cur, hv, _⟩
          · cases h'
          · simp only [Value.slice.injEq, Option.some.injEq] at hv
            obtain ⟨rfl, _, _⟩ := hv
            exact run_convert_bytes_arg (P := C.P) w t el hT hE g' 0 0 cap [] rfl (fun i hi => absurd hi (by omega)) t2 hS
    simp [execOp, ha.1.ev hx, this, Result.andThen]) k
end rows

/-! ### Calls -/
section calls
variable {C : Cx} {all : Array Oper} {ops : List Oper} {Q : Qt} {E : Env} {H H' : List HA} {d ty : Nat} {pos : String} {af : Array Edge} {gd : Option (Nat × Bool)} {x y z : Operand} {v u : Value} {t e g off : Nat}
def Env.evl (E : Env) : List Operand → Option (List Value)
  | [] => some []
  | x :: r => match E.ev x, Env.evl E r with
    | some v, some vs => some (v :: vs)
    | _, _ => none
theorem Fits.evl {n : Nat} {D : List Deferred} {a : Act} (h : Fits n D E a) : ∀ {l : List Operand} {vs : List Value}, E.evl l = some vs → l.map a.eval = vs
  | [], vs, hl => by simp [Env.evl] at hl; subst hl; rfl
  | x :: r, vs, hl => by
    simp only [Env.evl] at hl
    split at hl
    · rename_i v vs' h1 h2
      rw [← Option.some.inj hl]
      simp [h.ev h1, h.evl h2]
    · cases hl
theorem callsIn_F0 {r : Option Nat} {n : Nat} {P : Program} {f : FuncId} {args : Array Value} {w : World} {R : Ending → World → Prop} (h : Calls P f args w R) : CallsIn (F0 r) n P f args w R :=
  (callsIn_wide (n := n)).2 h
theorem calls_F0 {r : Option Nat} {n : Nat} {P : Program} {f : FuncId} {args : Array Value} {w : World} {R : Ending → World → Prop} (h : CallsIn (F0 r) n P f args w R) : Calls P f args w R :=
  (callsIn_wide (n := n)).1 h
/-- A call, by the callee's contract. -/
theorem EL.call {X : Type} {fo : Operand} {ar : Array Operand} {tys : Array TypeId} {f : FuncId} {cap argv : Array Value} {vs : List Value} (val : X → Value) (H2 : X → List HA) (hg : guardOk all E gd = some true) (hf : E.ev fo = some (.func (.func f) #[] cap)) (ha : E.evl ar.toList = some vs) (hargv : vs.toArray ++ cap = argv)
    (he : Enters C.P f) (hd : Nat.blt d C.n = true) (hc : ∀ w, Sat C.w0 C.B H w → Calls C.P f argv w fun e w' => ∃ x, e = .returned (val x) ∧ Sat C.w0 C.B (H2 x) w')
    (k : ∀ x, EL C all ops Q ((d, val x) :: E) (H2 x)) : EL C all (⟨some d, .call { callee := .value fo, args := ar, argTypes := tys }, ty, pos, af, gd⟩ :: ops) Q E H := by
  intro a w hat
  simp only [wpListIn, guardOk_wanted (o := ⟨some d, .call { callee := .value fo, args := ar, argTypes := tys }, ty, pos, af, gd⟩) hg hat.1, if_true]
  refine ⟨fun _ _ => trivial, ?_⟩
  rw [sem_plain (by simp)]
  have hm : ar.map a.eval = vs.toArray := by
    have := hat.1.evl ha
    apply Array.ext'
    simpa using this
  have hrun : (execOp a.eval ⟨some d, .call { callee := .value fo, args := ar, argTypes := tys }, ty, pos, af, gd⟩).run C.P w = .ok (.enter f argv) w := by
    simp only [execOp, resolve, hat.1.ev hf, hm, Deferred.ofValue, Sem.run_bind, Sem.run_pure, Result.andThen, invoke]
    rw [show (#[] ++ vs.toArray ++ cap) = argv by simpa using hargv]
    exact he argv w
  rw [hrun]
  refine ⟨fun h => by simp [F0] at h, ?_⟩
  refine callsIn_F0 ((hc w hat.2).mono ?_)
  rintro e w' ⟨x, rfl, hs⟩
  exact k x _ _ ⟨hat.1.put (by simpa using hd) _, hs⟩
theorem EL.call0 {X : Type} {fo : Operand} {ar : Array Operand} {tys : Array TypeId} {f : FuncId} {cap argv : Array Value} {vs : List Value} (val : X → Value) (H2 : X → List HA) (hg : guardOk all E gd = some true) (hf : E.ev fo = some (.func (.func f) #[] cap)) (ha : E.evl ar.toList = some vs) (hargv : vs.toArray ++ cap = argv)
    (he : Enters C.P f) (hc : ∀ w, Sat C.w0 C.B H w → Calls C.P f argv w fun e w' => ∃ x, e = .returned (val x) ∧ Sat C.w0 C.B (H2 x) w')
    (k : ∀ x, EL C all ops Q E (H2 x)) : EL C all (⟨none, .call { callee := .value fo, args := ar, argTypes := tys }, ty, pos, af, gd⟩ :: ops) Q E H := by
  intro a w hat
  simp only [wpListIn, guardOk_wanted (o := ⟨none, .call { callee := .value fo, args := ar, argTypes := tys }, ty, pos, af, gd⟩) hg hat.1, if_true]
  refine ⟨fun _ _ => trivial, ?_⟩
  rw [sem_plain (by simp)]
  have hm : ar.map a.eval = vs.toArray := by
    have := hat.1.evl ha
    apply Array.ext'
    simpa using this
  have hrun : (execOp a.eval ⟨none, .call { callee := .value fo, args := ar, argTypes := tys }, ty, pos, af, gd⟩).run C.P w = .ok (.enter f argv) w := by
    simp only [execOp, resolve, hat.1.ev hf, hm, Deferred.ofValue, Sem.run_bind, Sem.run_pure, Result.andThen, invoke]
    rw [show (#[] ++ vs.toArray ++ cap) = argv by simpa using hargv]
    exact he argv w
  rw [hrun]
  refine ⟨fun h => by simp [F0] at h, ?_⟩
  refine callsIn_F0 ((hc w hat.2).mono ?_)
  rintro e w' ⟨x, rfl, hs⟩
  exact k x _ _ ⟨hat.1, hs⟩
/-- The common contract: what is owned by the caller is old memory to the callee. -/
def Pure {X : Type} (P : Program) (f : FuncId) (argv : Array Value) (val : X → Value) (HX : X → List HA) (w : World) : Prop :=
  Calls P f argv w fun e w' => ∃ x, e = .returned (val x) ∧ Sat w w.heap.size (HX x) w'
theorem Pure.sat {X : Type} {P : Program} {f : FuncId} {argv : Array Value} {val : X → Value} {HX : X → List HA} {w w0 : World} {B : Nat} (h : Pure P f argv val HX w) (hs : Sat w0 B H w) :
    Calls P f argv w fun e w' => ∃ x, e = .returned (val x) ∧ Sat w0 B (HX x ++ H) w' :=
  h.mono fun e w' ⟨x, he, h'⟩ => ⟨x, he, hs.join h'⟩

/-! ### A function's begin and end -/
def envOf : List Value → Nat → Env
  | [], _ => []
  | v :: r, i => (i, v) :: envOf r (i + 1)
theorem envOf_get : ∀ (l : List Value) (i d : Nat) (v : Value), (envOf l i).get d = some v → i ≤ d ∧ l[d - i]? = some v
  | [], i, d, v, h => by simp [envOf, Env.get] at h
  | u :: r, i, d, v, h => by
    simp only [envOf, Env.get_cons] at h
    by_cases e : i = d
    · subst e; rw [if_pos rfl] at h; exact ⟨Nat.le_refl _, by simpa using h⟩
    · rw [if_neg e] at h
      obtain ⟨h1, h2⟩ := envOf_get r (i + 1) d v h
      refine ⟨by omega, ?_⟩
      rw [show d - i = (d - (i + 1)) + 1 by omega]
      simpa using h2
theorem fits_start (args : Array Value) (n : Nat) (hn : args.size ≤ n) : Fits n [] (envOf args.toList 0) { tmps := args ++ Array.replicate (n - args.size) undef, defers := [] } := by
  refine ⟨rfl, by simp; omega, fun d v h => ?_⟩
  obtain ⟨_, h2⟩ := envOf_get _ _ _ _ h
  have hd : d < args.size := by
    have := (List.getElem?_eq_some_iff.1 h2).1
    simpa using this
  rw [Array.getElem?_append_left hd]
  simpa using h2
theorem calls_of_ES {P : Program} (T : TyTab P) {f : FuncId} {fn : Func} {c : Code} {args : Array Value} {w w0 : World} {B : Nat} {R : Ending → World → Prop} (hf : P.funcs[f]? = some fn) (hb : fn.body = some c) (n : Nat) (hn : fn.ntmps = n) (hsz : Nat.ble args.size n = true)
    (hs : Sat w0 B H w) (h : ES ⟨P, T, none, n, [], w0, B⟩ [c] (bodyPost P fn R) (envOf args.toList 0) H) : Calls P f args w R := by
  refine calls_F0 (r := none) (n := 0) (callsIn_of_wp hf hb trivial ?_)
  subst hn
  have := h _ w ⟨fits_start args fn.ntmps (Nat.le_of_ble_eq_true hsz), hs⟩
  refine wpIn_mono this ?_
  intro e a w hq
  cases e <;> exact hq
/-- A result's place, as it reads at the end. -/
inductive ResV (C : Cx) (E : Env) (H : List HA) : ResultVar → Value → Prop
  | tmp {t : Nat} {v : Value} (h : E.get t = some v) : ResV C E H (.tmp t) v
  | cell {a ty : Nat} {ad : Addr} {v : Value} (h : E.get a = some (.pointer (some ad))) (hl : ∀ w, Sat C.w0 C.B H w → (loadVar ty ad).run C.P w = .ok v w) : ResV C E H (.cell a ty) v
inductive ResL (C : Cx) (E : Env) (H : List HA) : List ResultVar → List Value → Prop
  | nil : ResL C E H [] []
  | cons {r : ResultVar} {v : Value} {rs : List ResultVar} {vs : List Value} (h : ResV C E H r v) (t : ResL C E H rs vs) : ResL C E H (r :: rs) (v :: vs)
def outV : List Value → Value
  | [v] => v
  | vs => .tuple vs.toArray
def rdRes (tmps : Array Value) : ResultVar → Sem Value
  | .tmp t => pure (tmps.getD t undef)
  | .cell a t => do loadVar t (← asAddr (tmps.getD a undef))
theorem results_eq (fn : Func) (tmps : Array Value) : results fn tmps = (do let vs ← fn.results.mapM (rdRes tmps); pure (if h : vs.size = 1 then vs[0] else .tuple vs)) := by
  unfold results
  congr 1
theorem run_results {fn : Func} {a : Act} {w : World} {rs : List ResultVar} {vs : List Value} (hr : fn.results = rs.toArray) (h : ResL C E H rs vs) (ha : At C E H a w) : (results fn a.tmps).run C.P w = .ok (outV vs) w := by
  have key : ∀ (rs : List ResultVar) (vs : List Value), ResL C E H rs vs → (rs.mapM (rdRes a.tmps)).run C.P w = .ok vs w := by
    intro rs vs h
    induction h with
    | nil => rfl
    | @cons r v rs vs h t ih =>
      have hv : (rdRes a.tmps r).run C.P w = .ok v w := by
        cases h with
        | tmp h =>
          have := ha.1.get _ _ h
          simp [rdRes, Array.getD_eq_getD_getElem?, this]
        | cell h hl =>
          have := ha.1.get _ _ h
          simp [rdRes, Array.getD_eq_getD_getElem?, this, asAddr, hl w ha.2, Result.andThen]
      simp only [List.mapM_cons, Sem.run_bind, hv, Result.andThen, ih, Sem.run_pure]
  have h1 := key rs vs h
  rw [results_eq, hr]
  simp only [List.mapM_toArray, Sem.run_bind, Sem.run_map, h1, Result.andThen, Sem.run_pure]
  rcases vs with _ | ⟨v, _ | ⟨v2, vs⟩⟩ <;> simp [outV]
theorem PX.ret {fn : Func} {R : Ending → World → Prop} {rs : List ResultVar} {vs : List Value} (hD : C.D = []) (hr : fn.results = rs.toArray) (h : ResL C E H rs vs) (hR : ∀ w, Sat C.w0 C.B H w → R (.returned (outV vs)) w) : PX C (bodyPost C.P fn R) .ret E H :=
  fun a w ha => ⟨ha.1.dfr.trans hD, _, run_results hr h ha, hR w ha.2⟩
theorem PX.end {fn : Func} {R : Ending → World → Prop} {rs : List ResultVar} {vs : List Value} (hD : C.D = []) (hr : fn.results = rs.toArray) (h : ResL C E H rs vs) (hR : ∀ w, Sat C.w0 C.B H w → R (.returned (outV vs)) w) : PX C (bodyPost C.P fn R) .normal E H :=
  fun a w ha => ⟨ha.1.dfr.trans hD, _, run_results hr h ha, hR w ha.2⟩
theorem ResV.blk1 {a ty g off e : Nat} {ti : TI} {cs : Array Value} {fr : Nat × Nat} (h : E.get a = some (Pv g off)) (ht : C.T.f ty = some ti) (hu : ti.agg = false) (hm : Mem H (HA.blk g (.cells cs e fr))) (hc : cs[off]? = some v) : ResV C E H (.cell a ty) v :=
  .cell h fun w hs => by
    have hT := ((C.T.ok ty ti ht).runInfo w).2.2.2
    simp [loadVar, hT, hu, (blk_cell (hs.all _ hm.mem) off).trans hc, Result.andThen]
theorem ResV.blkA {a ty g e : Nat} {ti : TI} {cs : Array Value} {fr : Nat × Nat} (h : E.get a = some (Pv g 0)) (ht : C.T.f ty = some ti) (hu : ti.agg = true) (hm : Mem H (HA.blk g (.cells cs e fr))) (hl : ti.size = cs.size) : ResV C E H (.cell a ty) (.agg cs) :=
  .cell h fun w hs => by
    have hT := ((C.T.ok ty ti ht).runInfo w)
    have hl' := run_loadCells_list (P := C.P) w ⟨g, 0, none⟩ cs.toList (fun j u hj => by rw [add_n, Nat.zero_add, blk_cell (hs.all _ hm.mem)]; simpa using hj)
    simp only [Array.length_toList, Array.toArray_toList] at hl'
    simp [loadVar, hT.2.2.2, hu, hT.1, hl, hl', Result.andThen]
end calls
end Go.Proofs.YtgoopgnnkhpmlaaDoor.Sl
