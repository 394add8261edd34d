/- Layer 22: PickLines. -/
import Derived.Test.YtblpgpgbnlhjlaaQf
import Derived.Test.YtblpgpgbnlhjlaaSlaw
namespace Go.Proofs.Ytblpgpgbnlhjlaa
open Go.ChangeShapes Go.WideShapes Go.ChangeAt
open Go Go.RowKit Sl
set_option maxRecDepth 100000
set_option maxHeartbeats 8000000
set_option linter.unusedVariables false
set_option linter.unusedSimpArgs false
attribute [local irreducible] ES EL PX wps

def rowsL (a b : Int) : List Rw := [⟨lnA a, lnA b, false⟩, ⟨lnA a, ⟨2, 0, []⟩, false⟩, ⟨lnA a, ⟨0, 0, []⟩, false⟩, ⟨⟨0, 0, []⟩, ⟨0, 0, []⟩, false⟩, ⟨⟨2, 0, []⟩, ⟨0, 0, []⟩, false⟩]
def on0 (a b i : Int) : Bool := decide (a < i ∧ i ≤ b)
def on1 (a i : Int) : Bool := decide (a < i)
/-- The choices ahead of line i. -/
def csN (a b i : Int) : List Chc := [⟨⟨lnA a, lnA b, false⟩, none, none, on0 a b i⟩, ⟨⟨lnA a, ⟨2, 0, []⟩, false⟩, none, none, on1 a i⟩, ⟨⟨lnA a, ⟨0, 0, []⟩, false⟩, none, none, false⟩, ⟨⟨⟨0, 0, []⟩, ⟨0, 0, []⟩, false⟩, none, none, false⟩, ⟨⟨⟨2, 0, []⟩, ⟨0, 0, []⟩, false⟩, none, none, false⟩]
/-- The choices behind line i of n. -/
def csM (a b n i : Int) : List Chc := [⟨⟨lnA a, lnA b, false⟩, none, none, on0 a b (i + 1)⟩, ⟨⟨lnA a, ⟨2, 0, []⟩, false⟩, none, none, on1 a (i + 1) && !decide (i = n)⟩, ⟨⟨lnA a, ⟨0, 0, []⟩, false⟩, none, none, false⟩, ⟨⟨⟨0, 0, []⟩, ⟨0, 0, []⟩, false⟩, none, none, false⟩, ⟨⟨⟨2, 0, []⟩, ⟨0, 0, []⟩, false⟩, none, none, false⟩]
def yesL (a b n i : Int) : List Bool := [decide (a ≤ i ∧ i ≤ max a b), decide (a ≤ i), decide (i = a), true, decide (i = n)]
def offL (a b n i : Int) : List Bool := [decide (i < a ∨ b ≤ i), decide (i < a ∨ i = n), true, true, true]
theorem td_get {α : Type} (l l' : List α) (k : Nat) (hk : k ≤ l'.length) : (l'.take k ++ l.drop k)[k]? = l[k]? := by
  rw [List.getElem?_append_right (by rw [List.length_take]; omega), List.length_take, Nat.min_eq_left hk, Nat.sub_self, List.getElem?_drop, Nat.add_zero]
theorem td_set {α : Type} (l l' : List α) (k : Nat) (x : α) (hx : l'[k]? = some x) (hl : l.length = l'.length) : (l'.take k ++ l.drop k).set k x = l'.take (k + 1) ++ l.drop (k + 1) := by
  have hk := (List.getElem?_eq_some_iff.1 hx).1
  have hk2 : k < l.length := by omega
  rw [List.set_append_right _ _ (by rw [List.length_take]; omega), List.length_take, Nat.min_eq_left (by omega), Nat.sub_self, List.drop_eq_getElem_cons hk2, List.set_cons_zero, List.take_succ_eq_append_getElem hk, (List.getElem?_eq_some_iff.1 hx).2]
  simp
theorem lines_step (a b n i : Int) (ha : 1 ≤ a) (hb : 1 ≤ b) (hi : i ≤ n) (ans : List UInt8 → Bool × Int) (k : Nat) (hk : k < 5) :
    ∃ c c' y o, (csN a b i)[k]? = some c ∧ (csM a b n i)[k]? = some c' ∧ { c with on := c'.on } = c' ∧ (yesL a b n i)[k]? = some y ∧ (offL a b n i)[k]? = some o ∧ askM ans none c ⟨i, decide (i = n), []⟩ = ⟨none, c'.on, y, o, 0⟩ ∧ c.a = none ∧ c.b = none := by
  match k, hk with
  | 0, _ =>
    refine ⟨_, _, _, _, rfl, rfl, rfl, rfl, rfl, ?_, rfl, rfl⟩
    by_cases h1 : a < i ∧ i ≤ b
    · simp [askM, withinM, on0, h1]
      refine ⟨?_, ?_, ?_⟩ <;> (try rw [Bool.eq_iff_iff]; try simp) <;> omega
    · simp [askM, askA, meetsM, beginsM, on0, h1]
      refine ⟨?_, ?_, ?_⟩ <;> (try rw [Bool.eq_iff_iff]; try simp) <;> omega
  | 1, _ =>
    refine ⟨_, _, _, _, rfl, rfl, rfl, rfl, rfl, ?_, rfl, rfl⟩
    by_cases h1 : a < i
    · have h2 : a ≤ i := by omega
      have h3 : ¬ i < a := by omega
      have h4 : a < i + 1 := by omega
      simp [askM, withinM, meetsM, on1, h1, h2, h3, h4]
    · by_cases h5 : i = a
      · subst h5
        simp [askM, askA, meetsM, beginsM, on1]
        intro _; omega
      · have h2 : ¬ a ≤ i := by omega
        have h3 : i < a := by omega
        have h4 : ¬ a < i + 1 := by omega
        simp [askM, askA, meetsM, beginsM, on1, h1, h2, h3, h4, h5]
  | 2, _ =>
    refine ⟨_, _, _, _, rfl, rfl, rfl, rfl, rfl, ?_, rfl, rfl⟩
    simp [askM, askA, meetsM, beginsM]
  | 3, _ =>
    refine ⟨_, _, _, _, rfl, rfl, rfl, rfl, rfl, ?_, rfl, rfl⟩
    simp [askM, askA, meetsM, beginsM]
  | 4, _ =>
    refine ⟨_, _, _, _, rfl, rfl, rfl, rfl, rfl, ?_, rfl, rfl⟩
    simp [askM, askA, meetsM, beginsM]
theorem csM_next (a b n i : Int) (h : i < n) : csM a b n i = csN a b (i + 1) := by
  unfold csM csN
  rw [decide_eq_false (show ¬ i = n by omega)]
  simp
theorem linesNE (a b : Int) (ha : 1 ≤ a) (hb : 1 ≤ b) : pkNE (rowsL a b) = 0 := by
  simp [pkNE, rowsL, pksE, pkE, readE]
  omega
theorem linesNo (a b : Int) : ∀ r ∈ rowsL a b, ¬ hasM r.A ∧ ¬ hasM r.B := fun r hr => by
  simp only [rowsL, List.mem_cons, List.not_mem_nil, or_false] at hr
  rcases hr with rfl | rfl | rfl | rfl | rfl <;> exact ⟨fun h => by have := h.1; simp at this, fun h => by have := h.1; simp at this⟩
section
variable {C : Cx} {all : Array Oper} {ops : List Oper} {Q : Qt} {E : Env} {H : List HA} {d ty t : Nat} {pos : String} {af : Array Edge} {gd : Option (Nat × Bool)}
theorem EL.buildAr {ti te : TI} {len : Nat} {el : TypeId} {ps : Array (Nat × Operand)} {vs : List (Nat × Value)} (cells : Array Value) (hg : guardOk all E gd = some true) (hx : E.evp ps.toList = some vs) (ht : C.T.f t = some ti) (hu : ti.u = .array len el) (hte : C.T.f el = some te)
    (hf : Instr.fill (fun i => some (i * te.size, te.size)) ti.zero.cells vs = some cells) (hd : Nat.blt d C.n = true) (k : EL C all ops Q ((d, .agg cells) :: E) H) : EL C all (⟨some d, .build t ps, ty, pos, af, gd⟩ :: ops) Q E H :=
  EL.val _ hg rfl hd (by simp) (fun a w ha => by
    have hT := (C.T.ok t ti ht)
    have hI := hT.runInfo w
    have hE := (C.T.ok el te hte).runInfo w
    have hu' := hT.u
    rw [hu] at hu'
    have hm : (ps.map fun (p : Nat × Operand) => (p.1, a.eval p.2)).toList = vs := by
      have := ha.1.evp hx
      simpa using this
    simp only [execOp, Instr.build, Sem.run_bind, hI.2.1, Result.andThen, run_underlying hu', hE.1, hm, hf, Sem.run_pure]) k
end
theorem eqB5 {P : Program} (T : TyTab P) {t el : Nat} {ti te : TI} (ht : T.f t = some ti) (hu : ti.u = .array 5 el) (hte : T.f el = some te) (hue : te.u = .bool) (hsz : te.size = 1) (xs : List Bool) (x0 x1 x2 x3 x4 : Bool) (h : xs = [x0, x1, x2, x3, x4]) (w : World) :
    (Op.equal t (.agg (xs.map .bool).toArray) (.agg #[.bool x0, .bool x1, .bool x2, .bool x3, .bool x4])).run P w = .ok true w := by
  have h1 := run_equal_arrB T ht hu hte hue hsz xs [x0, x1, x2, x3, x4] (by rw [h]; rfl) rfl w
  rw [decide_eq_true h] at h1
  exact h1
theorem pickLines_c (f t l : UInt8) (w : World) (hG : GR w w.heap.size) : Pure Try.prog 12 #[Uv f, Uv t, Uv l] (fun _ : Unit => .bool true) (fun _ => []) w := by
  have hf := f.toNat_lt
  have ht := t.toNat_lt
  have hl := l.toNat_lt
  obtain ⟨a, ha⟩ : ∃ a, a = f.toNat % 30 := ⟨_, rfl⟩
  obtain ⟨b, hb⟩ : ∃ b, b = t.toNat % 30 := ⟨_, rfl⟩
  obtain ⟨n, hn⟩ : ∃ n, n = l.toNat % 40 := ⟨_, rfl⟩
  have ha30 : a < 30 := by omega
  have hb30 : b < 30 := by omega
  have hn40 : n < 40 := by omega
  refine calls_of_ES TB Try.func12 rfl _ Try.ntmps12 rfl (Sat.start w) ?_
  refine .go ?_; repeat constructor
  refine EL.assign rfl rfl rfl ?_
  refine .go ?_; repeat constructor
  refine EL.callPw rfl rfl rfl ent30 rfl (fun w hs => awake22_c w (GR.sat hG hs)) ?_
  refine EL.not rfl rfl rfl ?_
  refine .go ?_; repeat constructor
  refine ES.condF rfl ?_
  refine .go ?_; repeat constructor
  refine EL.move rfl rfl rfl ?_
  refine EL.remN (n := 30) rfl rfl rfl rfl (by omega) ?_
  (refine EL.convN rfl rfl rfl rfl rfl rfl (by simp only [kmax]; omega) ?_; rw [← ha])
  refine EL.add1 rfl rfl rfl rfl (by omega) ?_
  refine EL.move rfl rfl rfl ?_
  refine EL.remN (n := 30) rfl rfl rfl rfl (by omega) ?_
  (refine EL.convN rfl rfl rfl rfl rfl rfl (by simp only [kmax]; omega) ?_; rw [← hb])
  refine EL.add1 rfl rfl rfl rfl (by omega) ?_
  refine EL.move rfl rfl rfl ?_
  refine EL.remN (n := 40) rfl rfl rfl rfl (by omega) ?_
  (refine EL.convN rfl rfl rfl rfl rfl rfl (by simp only [kmax]; omega) ?_; rw [← hn])
  refine EL.assign rfl rfl rfl ?_
  refine EL.assign rfl rfl rfl ?_
  refine EL.assign rfl rfl rfl ?_
  refine .go ?_; repeat constructor
  have hA1 : (1 : Int) ≤ ((a + 1 : Nat) : Int) := by omega
  have hB1 : (1 : Int) ≤ ((b + 1 : Nat) : Int) := by omega
  have hA2 : ((a + 1 : Nat) : Int) ≤ 30 := by omega
  have hB2 : ((b + 1 : Nat) : Int) ≤ 30 := by omega
  generalize ((a + 1 : Nat) : Int) = A at *
  generalize ((b + 1 : Nat) : Int) = D at *
  have hpne := linesNE A D hA1 hB1
  refine .go ?_; repeat constructor
  refine EL.move rfl rfl rfl ?_
  refine EL.callP rfl rfl rfl ent32 rfl (line22_c A) ?_
  refine EL.move rfl rfl rfl ?_
  refine EL.callP rfl rfl rfl ent32 rfl (line22_c D) ?_
  refine EL.buildS (rwC ⟨lnA A, lnA D, false⟩).toArray rfl rfl rfl rfl rfl (by kernel_rfl) rfl ?_
  refine EL.move rfl rfl rfl ?_
  refine EL.callP rfl rfl rfl ent32 rfl (line22_c A) ?_
  refine EL.buildS (adC ⟨2, 0, []⟩).toArray rfl rfl rfl rfl rfl (by kernel_rfl) rfl ?_
  refine EL.buildS (rwC ⟨lnA A, ⟨2, 0, []⟩, false⟩).toArray rfl rfl rfl rfl rfl (by kernel_rfl) rfl ?_
  refine EL.move rfl rfl rfl ?_
  refine EL.callP rfl rfl rfl ent32 rfl (line22_c A) ?_
  refine EL.buildS (rwC ⟨lnA A, ⟨0, 0, []⟩, false⟩).toArray rfl rfl rfl rfl rfl (by kernel_rfl) rfl ?_
  refine EL.buildS (rwC ⟨⟨0, 0, []⟩, ⟨0, 0, []⟩, false⟩).toArray rfl rfl rfl rfl rfl (by kernel_rfl) rfl ?_
  refine EL.buildS (adC ⟨2, 0, []⟩).toArray rfl rfl rfl rfl rfl (by kernel_rfl) rfl ?_
  refine EL.buildS (rwC ⟨⟨2, 0, []⟩, ⟨0, 0, []⟩, false⟩).toArray rfl rfl rfl rfl rfl (by kernel_rfl) rfl ?_
  (refine EL.buildSliceC (rwsC (rowsL A D)).toArray rfl rfl rfl rfl rfl rfl (by kernel_rfl) rfl rfl rfl rfl ?_; intro b48)
  (refine EL.callXw rfl rfl rfl ent31 rfl (fun w hs => pickNew_c (rowsL A D) (by intro r hr; simp only [rowsL, List.mem_cons, List.not_mem_nil, or_false] at hr; rcases hr with rfl | rfl | rfl | rfl | rfl <;> exact ⟨Nat.zero_le _, Nat.zero_le _⟩) (some ⟨b48, 0, none⟩) 5 w (GR.sat hG hs) (Rd.row (n := 5) (cap := 5) (sz := 7) hs (by repeat constructor) (by decide))) ?_; rintro (hbad | ⟨hok, gp, z, hz⟩); exact absurd hpne hbad)
  refine EL.move rfl rfl rfl ?_
  refine EL.extract rfl rfl rfl rfl ?_
  refine EL.extract rfl rfl rfl rfl ?_
  refine EL.assign rfl rfl rfl ?_
  refine EL.assign rfl rfl rfl ?_
  refine .go ?_; repeat constructor
  refine .go ?_; repeat constructor
  refine EL.move rfl rfl rfl ?_
  refine EL.eqlPn rfl rfl rfl rfl rfl rfl ?_
  refine EL.move rfl rfl rfl ?_
  refine EL.rew (d := 54) (v' := .bool false) rfl (by first | rfl | (decide) | (simp)) ?_
  refine EL.move rfl rfl rfl ?_
  refine EL.neqI rfl rfl rfl rfl ?_
  refine EL.pickF rfl rfl rfl rfl ?_
  refine .go ?_; repeat constructor
  refine ES.condF rfl ?_
  obtain ⟨hcs, hms⟩ := hz.plain (linesNo A D)
  refine ES.know (P := ∃ rg, z.ad = some ⟨rg, 0, none⟩) (fun w hs => (row_form (hs.all (CRow z.ad z.cap z.cs) (by simp [NwX.H]))).2.2.2.2 (by rw [hcs]; exact Nat.zero_lt_succ 4)) ?_
  rintro ⟨rg, hrg⟩
  obtain ⟨ad, cap, cs, ms⟩ := z
  dsimp only at hrg hcs hms
  subst hrg hms
  have hcs1 : cs = csN A D 1 := by
    rw [hcs]
    unfold csN on0 on1 rowsL
    rw [decide_eq_false (show ¬ (A < 1 ∧ 1 ≤ D) by omega), decide_eq_false (show ¬ A < 1 by omega)]
    rfl
  subst hcs1
  refine .go ?_; repeat constructor
  refine EL.assign rfl rfl rfl ?_
  refine .go ?_; repeat constructor
  refine ES.loop (σ := Nat) (fun i => 1 ≤ i ∧ i ≤ n + 1) (fun i => [(7, Iv A), (8, Iv D), (9, Iv (n : Nat)), (10, Pv gp 0), (12, Iv (i : Nat))]) (fun i => if i ≤ n then PKA gp rg cap (csN A D (i : Nat)) none [] else []) (fun i => n + 1 - i) 1 ⟨Nat.le_refl _, by omega⟩ ⟨rfl, rfl, rfl, rfl, rfl, trivial⟩ (by dsimp only; split; exact (.i (by repeat constructor)); exact .nil _) ?_
  rintro i ⟨hi1, hi2⟩
  dsimp only
  refine .go ?_; repeat constructor
  refine EL.move rfl rfl rfl ?_
  refine EL.move rfl rfl rfl ?_
  refine EL.leq rfl rfl rfl rfl ?_
  refine .go ?_; repeat constructor
  refine ES.condD rfl (fun hin => ?_) (fun hout => ?_)
  rotate_left
  · refine .go ?_; repeat constructor
    refine EL.assign rfl rfl rfl ?_
    refine .go ?_; repeat constructor
    exact PX.ret rfl Try.results12 (.cons (.tmp rfl) .nil) (fun w hs => ⟨(), rfl, hs.ent (.nil _)⟩)
  have hin' : i ≤ n := by omega
  rw [if_pos hin']
  refine .go ?_; repeat constructor
  (refine EL.alloc rfl rfl rfl ?_; intro g13)
  (refine EL.alloc rfl rfl rfl ?_; intro g14)
  refine .go ?_; repeat constructor
  refine EL.move rfl rfl rfl ?_
  refine .go ?_; repeat constructor
  refine ES.loop (σ := Nat) (fun k => k ≤ 5) (fun k => [(7, Iv A), (8, Iv D), (9, Iv (n : Nat)), (10, Pv gp 0), (12, Iv (i : Nat)), (13, Pv g13 0), (14, Pv g14 0), (63, Iv (k : Nat))])
    (fun k => HA.blk g13 (.cells (((yesL A D n i).take k ++ (List.replicate 5 false).drop k).map Value.bool).toArray 60) :: HA.blk g14 (.cells (((offL A D n i).take k ++ (List.replicate 5 false).drop k).map Value.bool).toArray 60) :: PKA gp rg cap ((csM A D n i).take k ++ (csN A D i).drop k) none [])
    (fun k => 5 - k) 0 (Nat.zero_le _) ⟨rfl, rfl, rfl, rfl, rfl, rfl, rfl, rfl, trivial⟩ (.i (by repeat constructor)) ?_
  intro k hk
  refine .go ?_; repeat constructor
  refine EL.lss rfl rfl rfl rfl ?_
  refine .go ?_; repeat constructor
  refine ES.condD rfl (fun hlt => ?_) (fun hge => ?_)
  · have hk5 : k < 5 := by omega
    obtain ⟨c, c', y, o, e1, e2, e3, e4, e5, e6, e7, e8⟩ := lines_step A D n i hA1 hB1 (by omega) (fun _ => (false, 0)) k hk5
    have k1 := ask_e gp rg cap ((csM A D n i).take k ++ (csN A D i).drop k) ((csM A D n i).take (k + 1) ++ (csN A D i).drop (k + 1)) k c none none [] ⟨i, decide ((i : Int) = n), []⟩ (fun _ => (false, 0)) (fun q hq => by cases hq) c'.on y o 0 (by rw [td_get _ _ _ (by show k ≤ 5; omega)]; exact e1) (fun q h => by cases h) (fun q h => by rw [e7] at h; cases h) (fun q h => by rw [e8] at h; cases h) e6 (by rw [e3]; exact td_set _ _ _ _ e2 rfl) (by simp [csM, csN]; omega) w w.heap.size hG
    have hz1 := td_set (List.replicate 5 false) (yesL A D n i) k y e4 rfl
    have hz2 := td_set (List.replicate 5 false) (offL A D n i) k o e5 rfl
    refine .go ?_; repeat constructor
    refine EL.move rfl rfl rfl ?_
    refine EL.assign rfl rfl rfl ?_
    refine .go ?_; repeat constructor
    refine EL.move rfl rfl rfl ?_
    refine EL.move rfl rfl rfl ?_
    refine EL.move rfl rfl rfl ?_
    refine EL.move rfl rfl rfl ?_
    refine EL.move rfl rfl rfl ?_
    refine EL.eqlI rfl rfl rfl rfl ?_
    (refine EL.callMw rfl rfl rfl ent33 rfl k1 (by repeat constructor) ?_; intro x1)
    refine EL.move rfl rfl rfl ?_
    refine EL.extract rfl rfl rfl rfl ?_
    refine EL.extract rfl rfl rfl rfl ?_
    refine EL.extract rfl rfl rfl rfl ?_
    refine EL.assign rfl rfl rfl ?_
    refine EL.assign rfl rfl rfl ?_
    refine EL.assign rfl rfl rfl ?_
    refine .go ?_; repeat constructor
    refine .go ?_; repeat constructor
    refine EL.move rfl rfl rfl ?_
    refine EL.neqI rfl rfl rfl rfl ?_
    refine .go ?_; repeat constructor
    refine ES.condF rfl ?_
    refine .go ?_; repeat constructor
    refine EL.move rfl rfl rfl ?_
    refine EL.move rfl rfl rfl ?_
    refine EL.indexAddrA1 rfl rfl rfl rfl rfl rfl rfl rfl hk5 ?_
    (refine EL.storeBm Value.bool (b := y) rfl rfl rfl rfl rfl rfl (by repeat constructor) (by simp [yesL]; omega) ?_; rw [hz1])
    refine .go ?_; repeat constructor
    refine EL.move rfl rfl rfl ?_
    refine EL.move rfl rfl rfl ?_
    refine EL.indexAddrA1 rfl rfl rfl rfl rfl rfl rfl rfl hk5 ?_
    (refine EL.storeBm Value.bool (b := o) rfl rfl rfl rfl rfl rfl (by repeat constructor) (by simp [offL]; omega) ?_; rw [hz2])
    refine .go ?_; repeat constructor
    refine .go ?_; repeat constructor
    refine EL.add1 rfl rfl rfl rfl (by omega) ?_
    refine EL.move rfl rfl rfl ?_
    refine .go ?_; repeat constructor
    exact PX.loop (k + 1) (by omega) (by omega) ⟨rfl, rfl, rfl, rfl, rfl, rfl, rfl, rfl, trivial⟩ (.i (by repeat constructor))
  obtain rfl : k = 5 := by omega
  refine .go ?_; repeat constructor
  refine EL.cutX (X := Unit) (fun _ => [(7, Iv A), (8, Iv D), (9, Iv (n : Nat)), (10, Pv gp 0), (12, Iv (i : Nat)), (128, .bool false)]) (fun _ => PKA gp rg cap (csM A D n i) none []) ?_ (fun _ => ?_)
  · refine .go ?_; repeat constructor
    (apply EL.loadAggB; exact rfl; exact rfl; exact rfl; exact rfl; exact rfl; (case hm => repeat constructor); exact rfl)
    refine EL.move rfl rfl rfl ?_
    refine EL.move rfl rfl rfl ?_
    refine EL.geq rfl rfl rfl rfl ?_
    refine EL.move rfl rfl rfl ?_
    first | refine EL.splitD (d := 90) rfl (fun hp90 => ?_) (fun hp90 => ?_) | refine EL.splitN (d := 90) rfl (fun hp90 => ?_) (fun hp90 => ?_) | refine EL.splitB (d := 90) rfl (fun hp90 => ?_) (fun hp90 => ?_)
    · refine EL.move rfl rfl rfl ?_
      refine EL.move rfl rfl rfl ?_
      refine EL.move rfl rfl rfl ?_
      refine EL.ofRV (RV.maxI rfl rfl) rfl rfl rfl (by intro c h; cases h) ?_
      refine EL.leq rfl rfl rfl rfl ?_
      refine EL.pickT rfl rfl rfl rfl ?_
      refine EL.move rfl rfl rfl ?_
      refine EL.move rfl rfl rfl ?_
      refine EL.geq rfl rfl rfl rfl ?_
      refine EL.move rfl rfl rfl ?_
      refine EL.move rfl rfl rfl ?_
      refine EL.eqlI rfl rfl rfl rfl ?_
      refine EL.move rfl rfl rfl ?_
      refine EL.move rfl rfl rfl ?_
      refine EL.eqlI rfl rfl rfl rfl ?_
      refine EL.buildAr #[_, _, _, _, _] rfl rfl rfl rfl rfl rfl rfl ?_
      refine EL.neqAgg (b := true) rfl rfl rfl rfl rfl (eqB5 TB rfl rfl rfl rfl rfl (yesL A D n i) _ _ _ _ _ (by unfold yesL; simp only [List.cons.injEq, and_true, true_and, decide_eq_decide, decide_eq_true_eq, decide_eq_false_iff_not]; omega)) ?_
      refine EL.move rfl rfl rfl ?_
      refine EL.rew (d := 108) (v' := .bool false) rfl (by first | rfl | (decide) | (simp)) ?_
      (apply EL.loadAggB; exact rfl; exact rfl; exact rfl; exact rfl; exact rfl; (case hm => repeat constructor); exact rfl)
      refine EL.move rfl rfl rfl ?_
      refine EL.move rfl rfl rfl ?_
      refine EL.lss rfl rfl rfl rfl ?_
      refine EL.move rfl rfl rfl ?_
      first | refine EL.splitD (d := 113) rfl (fun hp113 => ?_) (fun hp113 => ?_) | refine EL.splitN (d := 113) rfl (fun hp113 => ?_) (fun hp113 => ?_) | refine EL.splitB (d := 113) rfl (fun hp113 => ?_) (fun hp113 => ?_)
      · refine EL.pass rfl rfl rfl ?_
        refine EL.pass rfl rfl rfl ?_
        refine EL.pass rfl rfl rfl ?_
        refine EL.pickT rfl rfl rfl rfl ?_
        refine EL.move rfl rfl rfl ?_
        refine EL.move rfl rfl rfl ?_
        refine EL.lss rfl rfl rfl rfl ?_
        refine EL.move rfl rfl rfl ?_
        first | refine EL.splitD (d := 121) rfl (fun hp121 => ?_) (fun hp121 => ?_) | refine EL.splitN (d := 121) rfl (fun hp121 => ?_) (fun hp121 => ?_) | refine EL.splitB (d := 121) rfl (fun hp121 => ?_) (fun hp121 => ?_)
        · refine EL.pass rfl rfl rfl ?_
          refine EL.pass rfl rfl rfl ?_
          refine EL.pass rfl rfl rfl ?_
          refine EL.pickT rfl rfl rfl rfl ?_
          refine EL.buildAr #[_, _, _, _, _] rfl rfl rfl rfl rfl rfl rfl ?_
          refine EL.neqAgg (b := true) rfl rfl rfl rfl rfl (eqB5 TB rfl rfl rfl rfl rfl (offL A D n i) _ _ _ _ _ (by unfold offL; simp only [List.cons.injEq, and_true, true_and, decide_eq_decide, decide_eq_true_eq, decide_eq_false_iff_not]; omega)) ?_
          refine EL.pickF rfl rfl rfl rfl ?_
          exact EL.endX () ⟨rfl, rfl, rfl, rfl, rfl, rfl, trivial⟩ (.i (by repeat constructor))
        · refine EL.move rfl rfl rfl ?_
          refine EL.move rfl rfl rfl ?_
          refine EL.eqlI rfl rfl rfl rfl ?_
          refine EL.pickF rfl rfl rfl rfl ?_
          refine EL.buildAr #[_, _, _, _, _] rfl rfl rfl rfl rfl rfl rfl ?_
          refine EL.neqAgg (b := true) rfl rfl rfl rfl rfl (eqB5 TB rfl rfl rfl rfl rfl (offL A D n i) _ _ _ _ _ (by unfold offL; simp only [List.cons.injEq, and_true, true_and, decide_eq_decide, decide_eq_true_eq, decide_eq_false_iff_not]; omega)) ?_
          refine EL.pickF rfl rfl rfl rfl ?_
          exact EL.endX () ⟨rfl, rfl, rfl, rfl, rfl, rfl, trivial⟩ (.i (by repeat constructor))
      · refine EL.move rfl rfl rfl ?_
        refine EL.move rfl rfl rfl ?_
        refine EL.geq rfl rfl rfl rfl ?_
        refine EL.pickF rfl rfl rfl rfl ?_
        refine EL.move rfl rfl rfl ?_
        refine EL.move rfl rfl rfl ?_
        refine EL.lss rfl rfl rfl rfl ?_
        refine EL.move rfl rfl rfl ?_
        first | refine EL.splitD (d := 121) rfl (fun hp121 => ?_) (fun hp121 => ?_) | refine EL.splitN (d := 121) rfl (fun hp121 => ?_) (fun hp121 => ?_) | refine EL.splitB (d := 121) rfl (fun hp121 => ?_) (fun hp121 => ?_)
        · refine EL.pass rfl rfl rfl ?_
          refine EL.pass rfl rfl rfl ?_
          refine EL.pass rfl rfl rfl ?_
          refine EL.pickT rfl rfl rfl rfl ?_
          refine EL.buildAr #[_, _, _, _, _] rfl rfl rfl rfl rfl rfl rfl ?_
          refine EL.neqAgg (b := true) rfl rfl rfl rfl rfl (eqB5 TB rfl rfl rfl rfl rfl (offL A D n i) _ _ _ _ _ (by unfold offL; simp only [List.cons.injEq, and_true, true_and, decide_eq_decide, decide_eq_true_eq, decide_eq_false_iff_not]; omega)) ?_
          refine EL.pickF rfl rfl rfl rfl ?_
          exact EL.endX () ⟨rfl, rfl, rfl, rfl, rfl, rfl, trivial⟩ (.i (by repeat constructor))
        · refine EL.move rfl rfl rfl ?_
          refine EL.move rfl rfl rfl ?_
          refine EL.eqlI rfl rfl rfl rfl ?_
          refine EL.pickF rfl rfl rfl rfl ?_
          refine EL.buildAr #[_, _, _, _, _] rfl rfl rfl rfl rfl rfl rfl ?_
          refine EL.neqAgg (b := true) rfl rfl rfl rfl rfl (eqB5 TB rfl rfl rfl rfl rfl (offL A D n i) _ _ _ _ _ (by unfold offL; simp only [List.cons.injEq, and_true, true_and, decide_eq_decide, decide_eq_true_eq, decide_eq_false_iff_not]; omega)) ?_
          refine EL.pickF rfl rfl rfl rfl ?_
          exact EL.endX () ⟨rfl, rfl, rfl, rfl, rfl, rfl, trivial⟩ (.i (by repeat constructor))
    · refine EL.pass rfl rfl rfl ?_
      refine EL.pass rfl rfl rfl ?_
      refine EL.pass rfl rfl rfl ?_
      refine EL.pass rfl rfl rfl ?_
      refine EL.pass rfl rfl rfl ?_
      refine EL.pickF rfl rfl rfl rfl ?_
      refine EL.move rfl rfl rfl ?_
      refine EL.move rfl rfl rfl ?_
      refine EL.geq rfl rfl rfl rfl ?_
      refine EL.move rfl rfl rfl ?_
      refine EL.move rfl rfl rfl ?_
      refine EL.eqlI rfl rfl rfl rfl ?_
      refine EL.move rfl rfl rfl ?_
      refine EL.move rfl rfl rfl ?_
      refine EL.eqlI rfl rfl rfl rfl ?_
      refine EL.buildAr #[_, _, _, _, _] rfl rfl rfl rfl rfl rfl rfl ?_
      refine EL.neqAgg (b := true) rfl rfl rfl rfl rfl (eqB5 TB rfl rfl rfl rfl rfl (yesL A D n i) _ _ _ _ _ (by unfold yesL; simp only [List.cons.injEq, and_true, true_and, decide_eq_decide, decide_eq_true_eq, decide_eq_false_iff_not]; omega)) ?_
      refine EL.move rfl rfl rfl ?_
      refine EL.rew (d := 108) (v' := .bool false) rfl (by first | rfl | (decide) | (simp)) ?_
      (apply EL.loadAggB; exact rfl; exact rfl; exact rfl; exact rfl; exact rfl; (case hm => repeat constructor); exact rfl)
      refine EL.move rfl rfl rfl ?_
      refine EL.move rfl rfl rfl ?_
      refine EL.lss rfl rfl rfl rfl ?_
      refine EL.move rfl rfl rfl ?_
      first | refine EL.splitD (d := 113) rfl (fun hp113 => ?_) (fun hp113 => ?_) | refine EL.splitN (d := 113) rfl (fun hp113 => ?_) (fun hp113 => ?_) | refine EL.splitB (d := 113) rfl (fun hp113 => ?_) (fun hp113 => ?_)
      · refine EL.pass rfl rfl rfl ?_
        refine EL.pass rfl rfl rfl ?_
        refine EL.pass rfl rfl rfl ?_
        refine EL.pickT rfl rfl rfl rfl ?_
        refine EL.move rfl rfl rfl ?_
        refine EL.move rfl rfl rfl ?_
        refine EL.lss rfl rfl rfl rfl ?_
        refine EL.move rfl rfl rfl ?_
        first | refine EL.splitD (d := 121) rfl (fun hp121 => ?_) (fun hp121 => ?_) | refine EL.splitN (d := 121) rfl (fun hp121 => ?_) (fun hp121 => ?_) | refine EL.splitB (d := 121) rfl (fun hp121 => ?_) (fun hp121 => ?_)
        · refine EL.pass rfl rfl rfl ?_
          refine EL.pass rfl rfl rfl ?_
          refine EL.pass rfl rfl rfl ?_
          refine EL.pickT rfl rfl rfl rfl ?_
          refine EL.buildAr #[_, _, _, _, _] rfl rfl rfl rfl rfl rfl rfl ?_
          refine EL.neqAgg (b := true) rfl rfl rfl rfl rfl (eqB5 TB rfl rfl rfl rfl rfl (offL A D n i) _ _ _ _ _ (by unfold offL; simp only [List.cons.injEq, and_true, true_and, decide_eq_decide, decide_eq_true_eq, decide_eq_false_iff_not]; omega)) ?_
          refine EL.pickF rfl rfl rfl rfl ?_
          exact EL.endX () ⟨rfl, rfl, rfl, rfl, rfl, rfl, trivial⟩ (.i (by repeat constructor))
        · refine EL.move rfl rfl rfl ?_
          refine EL.move rfl rfl rfl ?_
          refine EL.eqlI rfl rfl rfl rfl ?_
          refine EL.pickF rfl rfl rfl rfl ?_
          refine EL.buildAr #[_, _, _, _, _] rfl rfl rfl rfl rfl rfl rfl ?_
          refine EL.neqAgg (b := true) rfl rfl rfl rfl rfl (eqB5 TB rfl rfl rfl rfl rfl (offL A D n i) _ _ _ _ _ (by unfold offL; simp only [List.cons.injEq, and_true, true_and, decide_eq_decide, decide_eq_true_eq, decide_eq_false_iff_not]; omega)) ?_
          refine EL.pickF rfl rfl rfl rfl ?_
          exact EL.endX () ⟨rfl, rfl, rfl, rfl, rfl, rfl, trivial⟩ (.i (by repeat constructor))
      · refine EL.move rfl rfl rfl ?_
        refine EL.move rfl rfl rfl ?_
        refine EL.geq rfl rfl rfl rfl ?_
        refine EL.pickF rfl rfl rfl rfl ?_
        refine EL.move rfl rfl rfl ?_
        refine EL.move rfl rfl rfl ?_
        refine EL.lss rfl rfl rfl rfl ?_
        refine EL.move rfl rfl rfl ?_
        first | refine EL.splitD (d := 121) rfl (fun hp121 => ?_) (fun hp121 => ?_) | refine EL.splitN (d := 121) rfl (fun hp121 => ?_) (fun hp121 => ?_) | refine EL.splitB (d := 121) rfl (fun hp121 => ?_) (fun hp121 => ?_)
        · refine EL.pass rfl rfl rfl ?_
          refine EL.pass rfl rfl rfl ?_
          refine EL.pass rfl rfl rfl ?_
          refine EL.pickT rfl rfl rfl rfl ?_
          refine EL.buildAr #[_, _, _, _, _] rfl rfl rfl rfl rfl rfl rfl ?_
          refine EL.neqAgg (b := true) rfl rfl rfl rfl rfl (eqB5 TB rfl rfl rfl rfl rfl (offL A D n i) _ _ _ _ _ (by unfold offL; simp only [List.cons.injEq, and_true, true_and, decide_eq_decide, decide_eq_true_eq, decide_eq_false_iff_not]; omega)) ?_
          refine EL.pickF rfl rfl rfl rfl ?_
          exact EL.endX () ⟨rfl, rfl, rfl, rfl, rfl, rfl, trivial⟩ (.i (by repeat constructor))
        · refine EL.move rfl rfl rfl ?_
          refine EL.move rfl rfl rfl ?_
          refine EL.eqlI rfl rfl rfl rfl ?_
          refine EL.pickF rfl rfl rfl rfl ?_
          refine EL.buildAr #[_, _, _, _, _] rfl rfl rfl rfl rfl rfl rfl ?_
          refine EL.neqAgg (b := true) rfl rfl rfl rfl rfl (eqB5 TB rfl rfl rfl rfl rfl (offL A D n i) _ _ _ _ _ (by unfold offL; simp only [List.cons.injEq, and_true, true_and, decide_eq_decide, decide_eq_true_eq, decide_eq_false_iff_not]; omega)) ?_
          refine EL.pickF rfl rfl rfl rfl ?_
          exact EL.endX () ⟨rfl, rfl, rfl, rfl, rfl, rfl, trivial⟩ (.i (by repeat constructor))
  refine ES.condF rfl ?_
  refine .go ?_; repeat constructor
  refine EL.move rfl rfl rfl ?_
  refine EL.add1 rfl rfl rfl rfl (by omega) ?_
  refine EL.assign rfl rfl rfl ?_
  refine .go ?_; repeat constructor
  refine PX.loop (i + 1) ⟨by omega, by omega⟩ (by omega) ⟨rfl, rfl, rfl, rfl, rfl, trivial⟩ ?_
  split
  · rw [csM_next _ _ _ _ (by omega)]; exact (.i (by repeat constructor))
  · exact .nil _
theorem pickLines_lifted (os : Os) (started : os.Started) (H : Type) (enc : TypeId × Value → H) :
    ReturnsInHanded {} Try.checked os 12 .any (Rows.pickLinesSpec.pre6 enc Try.prog Try.f12 Rows.pickLinesRow.domain false) (Rows.pickLinesSpec.post enc Try.prog Try.f12 false true false false) := by
  refine returnsInHanded_of_change_shaped (C := Try.checked) own started (by kernel_rfl) Try.func12
    (ChangeSpec.witness6 (enc := enc) (C := Try.checked) false ⟨#[], #[.int .u8 0, .int .u8 0, .int .u8 0], []⟩ 8 (by kernel_rfl) (by kernel_rfl) (by kernel_rfl) (by kernel_rfl)) ?_
  intro W base args ds gs before hval0 hW _ hsz hsh _
  have hk : (DataW.weightsEach Try.prog (Try.f12.params.toList ++ []) (ds ++ gs)).all (· ≤ reachBytes) = true := hsz
  have hval : ∀ (j : Nat) t v, Try.f12.params[j]? = some t → args[j]? = some v → Value.okWide Try.prog W .any base t v := hval0
  have hW1 : DataW.Whole enc Try.prog Try.f12.params.toList Rows.pickLinesSpec.vars false W args.toList ds gs before := hW
  have hW' := hW1
  obtain ⟨p, q, hA0, hV, rfl, hfz, hnd⟩ := hW1
  have hA : DataW.TrodAll enc Try.prog W 0 (fun _ => true) true Try.f12.params.toList args.toList ds p := hA0
  rw [Try.params12] at hA hval hk
  obtain ⟨v0, vs0, d0, ds0, p0, q0, hargs0, rfl, rfl, h0, r0⟩ := trodAll_cons hA
  obtain ⟨v1, vs1, d1, ds1, p1, q1, hargs1, rfl, rfl, h1, r1⟩ := trodAll_cons r0
  obtain ⟨v2, vs2, d2, ds2, p2, q2, hargs2, rfl, rfl, h2, r2⟩ := trodAll_cons r1
  obtain ⟨rfl, rfl, rfl⟩ := trodAll_nil r2
  subst hargs1 hargs2
  obtain rfl : args = #[v0, v1, v2] := by cases args; simp_all
  obtain ⟨rfl, rfl⟩ := trodVars_none hV
  obtain ⟨b0, rfl, rfl⟩ := open_uv Try.underlying5 (hval 0 5 v0 rfl rfl) h0
  obtain ⟨b1, rfl, rfl⟩ := open_uv Try.underlying5 (hval 1 5 v1 rfl rfl) h1
  obtain ⟨b2, rfl, rfl⟩ := open_uv Try.underlying5 (hval 2 5 v2 rfl rfl) h2
  refine (pickLines_c b0 b1 b2 W (GR.of hsh)).mono fun e W' ⟨_, he, hs⟩ => ⟨_, he, ?_⟩
  exact law_true (s := Rows.pickLinesSpec) laidOut rfl Try.underlying4 (by kernel_rfl) rfl false rfl rfl rfl hW' hs.below
theorem pickLines_holds : Rows.PickLinesSaid :=
  OpenClaim.holds_of_wide 12 Try.f12 rfl rfl rfl rfl rfl rfl rfl ⟨rfl, rfl, rfl, rfl, rfl⟩ rfl rfl rfl rfl rfl (by kernel_rfl) Try.func12 (by kernel_rfl)
    (of_decide_eq_true (by kernel_rfl)) (by unfold Func.isWrapper; first | (rw [if_pos (by decide +kernel)]; kernel_rfl) | (rw [if_neg (by decide +kernel)]; exact ⟨rfl, rfl⟩))
    (fun os started H enc _ => pickLines_lifted os started H enc)
end Go.Proofs.Ytblpgpgbnlhjlaa
