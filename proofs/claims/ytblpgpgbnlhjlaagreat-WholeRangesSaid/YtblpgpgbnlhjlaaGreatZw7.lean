/- Texts of this claim, bundled. -/
import Derived.Test.YtblpgpgbnlhjlaaGreatZw6
namespace Go.Proofs.YtblpgpgbnlhjlaaGreat
open Go Go.RowKit Sl
set_option maxRecDepth 100000
set_option maxHeartbeats 8000000
set_option linter.unusedVariables false
set_option linter.unusedSimpArgs false
attribute [local irreducible] ES EL PX wps
def stepW (c1 c2 : UInt8) (st : List UInt8 × Bool) (x : List UInt8) : List UInt8 × Bool :=
  if st.2 = true then (st.1 ++ (x ++ [10]), !decide (c2 ∈ x)) else if c1 ∈ x then (st.1 ++ (x ++ [10]), true) else st
def foldW (c1 c2 : UInt8) (ks : List (List UInt8)) : List UInt8 × Bool := ks.foldl (stepW c1 c2) ([], false)
theorem foldW_snoc (c1 c2 : UInt8) (ks : List (List UInt8)) (x : List UInt8) : foldW c1 c2 (ks ++ [x]) = stepW c1 c2 (foldW c1 c2 ks) x := by
  simp [foldW, List.foldl_append]
theorem foldW_take (c1 c2 : UInt8) (ks : List (List UInt8)) (i : Nat) (h : i < ks.length) : foldW c1 c2 (ks.take (i + 1)) = stepW c1 c2 (foldW c1 c2 (ks.take i)) ks[i] := by
  rw [List.take_succ_eq_append_getElem h, foldW_snoc]
theorem stepW_le (c1 c2 : UInt8) (st : List UInt8 × Bool) (x : List UInt8) : st.1.length ≤ (stepW c1 c2 st x).1.length ∧ (stepW c1 c2 st x).1.length ≤ st.1.length + (x.length + 1) := by
  unfold stepW
  split
  · simp
  · split
    · simp
    · simp
theorem foldl_le (c1 c2 : UInt8) : ∀ (ks : List (List UInt8)) (st : List UInt8 × Bool), st.1.length ≤ (ks.foldl (stepW c1 c2) st).1.length
  | [], _ => Nat.le_refl _
  | x :: r, st => Nat.le_trans (stepW_le c1 c2 st x).1 (foldl_le c1 c2 r _)
theorem foldW_mono (c1 c2 : UInt8) (ks : List (List UInt8)) (i : Nat) : (foldW c1 c2 (ks.take i)).1.length ≤ (foldW c1 c2 ks).1.length := by
  conv => rhs; rw [← List.take_append_drop i ks]
  unfold foldW
  rw [List.foldl_append]
  exact foldl_le c1 c2 _ _
theorem foldl_len (c1 c2 : UInt8) : ∀ (ks : List (List UInt8)) (st : List UInt8 × Bool), (∀ x ∈ ks, x.length ≤ 1024) → (ks.foldl (stepW c1 c2) st).1.length ≤ st.1.length + 1025 * ks.length
  | [], _, _ => by simp
  | x :: r, st, h => by
    have h1 := foldl_len c1 c2 r (stepW c1 c2 st x) (fun y hy => h y (by simp [hy]))
    have h2 := (stepW_le c1 c2 st x).2
    have h3 := h x (by simp)
    rw [List.foldl_cons, List.length_cons]
    omega
theorem foldW_len (c1 c2 : UInt8) (ks : List (List UInt8)) (h : ∀ x ∈ ks, x.length ≤ 1024) : (foldW c1 c2 ks).1.length ≤ 1025 * ks.length := by
  have := foldl_len c1 c2 ks ([], false) h
  simpa [foldW] using this
def two4 (c : UInt8) : Prop := c = 97 ∨ c = 98 ∨ c = 99 ∨ c = 100
theorem two4_of (a : UInt8) : two4 (97 + a % 4) := by
  have h : (a % 4).toNat = a.toNat % 4 := by rw [UInt8.toNat_mod]; rfl
  have h2 : (97 + a % 4).toNat = 97 + a.toNat % 4 := by rw [UInt8.toNat_add, h]; simp; omega
  unfold two4
  have h3 : (97 + a % 4).toNat = 97 ∨ (97 + a % 4).toNat = 98 ∨ (97 + a % 4).toNat = 99 ∨ (97 + a % 4).toNat = 100 := by omega
  rcases h3 with h3 | h3 | h3 | h3
  · exact .inl (UInt8.toNat_inj.1 h3)
  · exact .inr (.inl (UInt8.toNat_inj.1 h3))
  · exact .inr (.inr (.inl (UInt8.toNat_inj.1 h3)))
  · exact .inr (.inr (.inr (UInt8.toNat_inj.1 h3)))
theorem two4.ok {c : UInt8} (h : two4 c) : okB c.toNat = true := by rcases h with rfl | rfl | rfl | rfl <;> decide
theorem two4.hasM {c : UInt8} (h : two4 c) : hasM (mtA [c]) := by rcases h with rfl | rfl | rfl | rfl <;> exact ⟨rfl, by decide, by decide +kernel⟩
abbrev rwW (c1 c2 : UInt8) : Rw := ⟨mtA [c1], mtA [c2], false⟩
theorem two4.ne {c1 c2 : UInt8} (h : two4 c1) (h2 : two4 c2) : pkNE [rwW c1 c2] = 0 := by
  rcases h with rfl | rfl | rfl | rfl <;> rcases h2 with rfl | rfl | rfl | rfl <;> decide +kernel
theorem two4.back {c : UInt8} (h : two4 c) : (meOf [c]).back = false := by rcases h with rfl | rfl | rfl | rfl <;> decide +kernel
abbrev chW (c1 c2 : UInt8) (ga gb : Nat) (on : Bool) : Chc := ⟨rwW c1 c2, some (ga, [c1]), some (gb, [c2]), on⟩
theorem PkOk.two {c1 c2 : UInt8} (hA : two4 c1) (hB : two4 c2) {z : PkSt} (h : PkOk [rwW c1 c2] z) : ∃ ga gb, z.cs = [chW c1 c2 ga gb false] ∧ (ga, [c1]) ∈ z.ms ∧ (gb, [c2]) ∈ z.ms ∧ ∀ q ∈ z.ms, q.2 = [c1] ∨ q.2 = [c2] := by
  obtain ⟨h1, h2, h3, h4, h5⟩ := h
  obtain ⟨ad, cap, cs, ms⟩ := z
  dsimp only at h1 h2 h3 h4 h5 ⊢
  obtain ⟨x1, cs, rfl, e1, h1⟩ := List.map_eq_cons_iff.1 h1
  rw [List.map_eq_nil_iff] at h1
  subst h1
  obtain ⟨r1, a1, b1, o1⟩ := x1
  dsimp only at e1
  subst e1
  obtain rfl : o1 = false := h2 _ (List.mem_cons_self ..)
  obtain ⟨ga, hga⟩ := (h3 _ (List.mem_cons_self ..)).1.some hA.hasM
  obtain ⟨gb, hgb⟩ := (h4 _ (List.mem_cons_self ..)).1.some hB.hasM
  dsimp only at hga hgb
  subst hga hgb
  refine ⟨ga, gb, rfl, (h3 _ (List.mem_cons_self ..)).2 _ rfl, (h4 _ (List.mem_cons_self ..)).2 _ rfl, fun q hq => ?_⟩
  obtain ⟨r, hr, h⟩ := h5 q hq
  rw [List.mem_singleton] at hr
  subst hr
  rcases h with ⟨h, e⟩ | ⟨h, e⟩
  · exact .inl e
  · exact .inr e
def ansT (s t : List UInt8) : Bool × Int := (decide (t.headD 0 ∈ s), 0)
theorem least_at {s : List UInt8} {c : UInt8} (h : c ∈ s) : ∃ q, q < s.length ∧ s.getD q 0 = c ∧ ∀ k, k < q → s.getD k 0 ≠ c := by
  induction s with
  | nil => cases h
  | cons d s ih =>
    by_cases hd : d = c
    · exact ⟨0, by simp, by simpa using hd, fun k hk => by omega⟩
    · obtain ⟨q, h1, h2, h3⟩ := ih (by rcases List.mem_cons.1 h with e | e; exact absurd e.symm hd; exact e)
      refine ⟨q + 1, by simpa using h1, by simpa using h2, fun k hk => ?_⟩
      cases k with
      | zero => simpa using hd
      | succ k => simpa using h3 k (by omega)
theorem ans_two {c : UInt8} (h : two4 c) {s : List UInt8} (hs : s.length ≤ 1024) : Ans [c] s (ansT s [c]).1 (ansT s [c]).2 := by
  refine ⟨by simp, h.back, ?_⟩
  unfold ansT
  by_cases hm : c ∈ s
  · obtain ⟨q, h1, h2, h3⟩ := least_at hm
    obtain ⟨F, m, e1, e2, e3, e4⟩ := one_some hs h.ok (Nat.zero_le q) h1 h2 (fun k _ hk => h3 k hk)
    exact ⟨F, m, e1, by rw [e2]; simp [hm], e3⟩
  · obtain ⟨F, m, e1, e2, e3, e4⟩ := one_none (p := 0) hs h.ok (Nat.zero_le _) (fun k _ hk e => hm (by
      rw [← e, List.getD_eq_getElem?_getD, List.getElem?_eq_getElem hk]
      exact List.getElem_mem _))
    exact ⟨F, m, e1, by rw [e2]; simp [hm], e3⟩
theorem ask_two (c1 c2 : UInt8) (ga gb : Nat) (st : List UInt8 × Bool) (last : Option Mt) (l : Line) : ∃ last' off, (last' = some (ga, [c1]) ∨ last' = some (gb, [c2])) ∧ askM (ansT l.s) last (chW c1 c2 ga gb st.2) l = ⟨last', (stepW c1 c2 st l.s).2, st.2 || decide (c1 ∈ l.s), off, 0⟩ := by
  obtain ⟨out, on⟩ := st
  cases on with
  | true =>
    refine ⟨some (gb, [c2]), decide (c2 ∈ l.s), .inr rfl, ?_⟩
    simp [askM, withinM, meetsM, orM, ansT, stepW, mtA, chW]
  | false =>
    refine ⟨some (ga, [c1]), !decide (c1 ∈ l.s), .inl rfl, ?_⟩
    by_cases h : c1 ∈ l.s
    · simp [askM, askA, meetsM, orM, ansT, stepW, mtA, chW, beginsM, h]
    · simp [askM, askA, meetsM, orM, ansT, stepW, mtA, chW, beginsM, h]
end Go.Proofs.YtblpgpgbnlhjlaaGreat
namespace Go.Proofs.YtblpgpgbnlhjlaaGreat.Sl
open Go Go.RowKit Go.ChangeShapes Go.WideShapes Go.ChangeAt
set_option linter.unusedVariables false
set_option linter.unusedSimpArgs false
def rowedB (P : Program) (ts : List TypeId) : Bool := ts.all fun t => P.readableRec t && decide (t < P.types.size)
theorem trodAll_below {H : Type} {enc : TypeId × Value → H} {P : Program} (hl : laidOutB P = true) {W W' : World} (hb : Below W.heap.size W W') :
    ∀ {ts : List TypeId} {vs : List Value} {ds : List (DataW H)} {ps : List MemPlace}, rowedB P ts = true → (∀ x ∈ ps, x.block < W.heap.size) → DataW.TrodAll enc P W 0 (fun _ => true) true ts vs ds ps → DataW.TrodAll enc P W' 0 (fun b => decide (b < W.heap.size)) true ts vs ds ps
  | [], [], [], _, _, _, h => h
  | t :: ts, v :: vs, d :: ds, ps, hr, hlt, h => by
    obtain ⟨p, q, h1, h2, rfl⟩ := h
    simp only [rowedB, List.all_cons, Bool.and_eq_true, decide_eq_true_eq] at hr
    exact ⟨p, q, Below.trod hl hr.1.1 hr.1.2 h1 hb (fun x hx => hlt x (by simp [hx])), trodAll_below hl hb (by simpa [rowedB] using hr.2) (fun x hx => hlt x (by simp [hx])) h2, rfl⟩
theorem law_true {H : Type} {enc : TypeId × Value → H} {P : Program} (hl : laidOutB P = true) {f : Func} {tb : TypeId} {s : ChangeSpec} {W W' : World} {args : Array Value} {ds gs : List (DataW H)} {before : List MemPlace}
    (hres : f.resultTypes = #[tb]) (hu : P.underlying tb = some .bool) (hts : rowedB P f.params.toList = true) (hv : varsRowed P s.vars = true) (apart : Bool)
    (hR : (s.fn H (ds ++ gs)).results = [.lit (.bool true)]) (hA : (s.fn H (ds ++ gs)).args = ds) (hV : (s.fn H (ds ++ gs)).vars = gs)
    (hW : DataW.Whole enc P f.params.toList s.vars apart W args.toList ds gs before) (hb : Below W.heap.size W W') : s.post enc P f apart true false false W args (.bool true) W' := by
  have hlt := hW.lt
  have hW' := hW
  obtain ⟨p, q, h1, h2, rfl, h4, h5⟩ := hW
  refine ⟨ds, gs, p ++ q, [], p, q, hW', ?_, ?_, ?_, hb.frame _, fun h => by cases h⟩
  · rw [hres, hR]
    exact trodAll_mk1 (shut_bool hu true)
  · rw [hA]
    exact trodAll_below hl hb hts (fun x hx => hlt x (by simp [hx])) h1
  · rw [hV]
    exact Below.trodVars hl hb hv h2
theorem open_uv {H : Type} {enc : TypeId × Value → H} {P : Program} {w : World} {base : Nat} {sp : Nat → Bool} {held : Bool} {r : Reach} {b0 : Nat} {t : TypeId} {v : Value} {d : DataW H} {ps : List MemPlace} (ht : P.underlying t = some (.int .u8)) (hval : Value.okWide P w r b0 t v) (hd : DataW.Trod enc P w base sp held t v d ps) :
    ∃ b : UInt8, v = Uv b ∧ d = .lit (.int .u8 (b.toNat : Int)) := by
  obtain ⟨n, rfl, rfl, _, hw⟩ := open_int ht hval hd
  have hx : 0 ≤ n ∧ n ≤ 255 := by simpa [Lit.wf, IntKind.min, IntKind.max, IntKind.signed, IntKind.bits] using hw
  have : ((UInt8.ofNat n.toNat).toNat : Int) = n := by simp; omega
  exact ⟨UInt8.ofNat n.toNat, by show _ = Value.int .u8 ((UInt8.ofNat n.toNat).toNat : Int); rw [this], by rw [this]⟩
theorem choose_list {α : Type} {p : Nat → α → Prop} : ∀ n : Nat, (∀ i, i < n → ∃ x, p i x) → ∃ xs : List α, xs.length = n ∧ ∀ i (h : i < xs.length), p i xs[i]
  | 0, _ => ⟨[], rfl, fun i h => absurd h (by simp)⟩
  | n + 1, h => by
    obtain ⟨xs, h1, h2⟩ := choose_list n (fun i hi => h i (by omega))
    obtain ⟨x, hx⟩ := h n (by omega)
    refine ⟨xs ++ [x], by simp [h1], fun i hi => ?_⟩
    by_cases h3 : i < xs.length
    · rw [List.getElem_append_left h3]; exact h2 i h3
    · have : i = n := by simp at hi; omega
      subst this
      rw [List.getElem_append_right (by omega)]
      simpa using hx
theorem flat_get {α : Type} (f : α → List Value) (sz : Nat) (hsz : 0 < sz) (hf : ∀ x, (f x).length = sz) : ∀ (xs : List α) (j : Nat) (v : Value), (xs.flatMap f)[j]? = some v → ∃ h : j / sz < xs.length, (f xs[j / sz])[j % sz]? = some v
  | [], j, v, h => by simp at h
  | x :: xs, j, v, h => by
    rw [List.flatMap_cons] at h
    by_cases hj : j < sz
    · rw [List.getElem?_append_left (by rw [hf]; exact hj)] at h
      have h0 : j / sz = 0 := Nat.div_eq_of_lt hj
      refine ⟨by rw [h0]; simp, ?_⟩
      simp only [h0, List.getElem_cons_zero, Nat.mod_eq_of_lt hj]
      exact h
    · rw [List.getElem?_append_right (by rw [hf]; omega), hf] at h
      obtain ⟨h1, h2⟩ := flat_get f sz hsz hf xs (j - sz) v h
      have hd : j / sz = (j - sz) / sz + 1 := by rw [← Nat.add_div_right _ hsz]; congr 1; omega
      have hm : j % sz = (j - sz) % sz := (Nat.mod_eq_sub_mod (by omega))
      refine ⟨by rw [hd]; simpa using h1, ?_⟩
      simp only [hd, List.getElem_cons_succ, hm]
      exact h2
theorem open_slice {α : Type} {H : Type} {enc : TypeId × Value → H} {P : Program} {w : World} {base : Nat} {sp : Nat → Bool} {held : Bool} {r : Reach} {b0 : Nat} {t e : TypeId} {v : Value} {d : DataW H} {ps : List MemPlace}
    (f : α → List Value) (gd : α → DataW H) (sz : Nat) (hsz : 0 < sz) (hf : ∀ x, (f x).length = sz) (ht : P.underlying t = some (.slice e)) (hc : P.cellsOf e = sz)
    (hel : ∀ n cs y, DataW.trod enc P w base sp held n e cs = some y → ∃ x : α, cs = f x ∧ y.1 = gd x)
    (hval : Value.okWide P w r b0 t v) (hd : DataW.Trod enc P w base sp held t v d ps) :
    ∃ (ad : Option Addr) (cap : Nat) (xs : List α) (rest : List (DataW H)), v = .slice ad xs.length cap ∧ Rd w w.heap.size ad (xs.flatMap f) ∧ ((d = .nil ∧ xs = []) ∨ d = .slice (xs.map gd) rest) := by
  obtain ⟨a, len, cap, rfl⟩ := okWide_slice ht hval
  obtain ⟨fuel, hfu⟩ := hd
  rcases DataW.trod_slice ht hfu with ⟨h1, h2⟩ | ⟨a', len', cap', elems, rest, n, _, h1, h2, hb, hl, hm, hlen, hel', hsp, hns⟩
  · simp only [Value.cells, Array.toList, List.cons.injEq, Value.slice.injEq, and_true] at h1
    obtain ⟨rfl, rfl, rfl⟩ := h1
    simp only [Prod.mk.injEq] at h2
    exact ⟨none, 0, [], [], rfl, fun hne => absurd rfl hne, .inl ⟨h2.1, rfl⟩⟩
  · simp only [Value.cells, Array.toList, List.cons.injEq, Value.slice.injEq, and_true] at h1
    obtain ⟨rfl, rfl, rfl⟩ := h1
    simp only [Prod.mk.injEq] at h2
    have each : ∀ i, i < len → ∃ x : α, w.cells? base (a'.add (i * sz)) sz = some (f x) ∧ ∃ y, elems[i]? = some y ∧ y.1 = gd x := by
      intro i hi
      have h3 := hel' i hi
      rw [hc] at h3
      have hy : elems[i]? = some (elems[i]'(by omega)) := List.getElem?_eq_getElem (by omega)
      rw [hy] at h3
      obtain ⟨cs, h4, h5⟩ := Option.bind_eq_some_iff.1 h3
      obtain ⟨x, rfl, h6⟩ := hel n cs _ h5
      exact ⟨x, h4, _, hy, h6⟩
    obtain ⟨xs, hxl, hx⟩ := choose_list len each
    refine ⟨some a', cap, xs, rest.map (·.1), by rw [hxl], ?_, .inr ?_⟩
    · intro hne
      have hpos : 0 < xs.length := by
        cases xs with
        | nil => exact absurd rfl hne
        | cons => simp
      have h0 := (hx 0 hpos).1
      rw [Nat.zero_mul] at h0
      have hcell := (World.cells?_some h0).2.2 0 hsz
      have hlt := World.cells?_block h0 hsz
      obtain ⟨g, off, spot⟩ := a'
      have hadd : ∀ b : Addr, b.add 0 = b := fun b => by simp [Addr.add]
      rw [hadd, hadd] at hcell
      rw [hadd] at hlt
      have hspot : spot = none := by
        cases spot with
        | none => rfl
        | some s =>
          have h7 : w.cell? ⟨g, off, some s⟩ = none := by unfold World.cell?; split <;> simp
          rw [h7] at hcell
          have h8 := hf xs[0]
          rw [List.getElem?_eq_getElem (by omega)] at hcell
          cases hcell
      subst hspot
      refine ⟨g, off, rfl, hlt, fun j v hj => ?_⟩
      obtain ⟨h9, h10⟩ := flat_get f sz hsz hf xs j v hj
      have h11 := (World.cells?_some (hx _ h9).1).2.2 (j % sz) (Nat.mod_lt _ hsz)
      rw [h10, add_n, add_n] at h11
      rw [← h11]
      congr 2
      have := Nat.div_add_mod' j sz
      omega
    · rw [h2.1]
      congr 1
      apply List.ext_getElem?
      intro i
      by_cases hi : i < len
      · obtain ⟨y, hy, hg⟩ := (hx i (by omega)).2
        simp [hy, hg, List.getElem?_eq_getElem (show i < xs.length by omega)]
      · rw [List.getElem?_eq_none (by simp; omega), List.getElem?_eq_none (by simp; omega)]
theorem flat_one {α : Type} (f : α → Value) (xs : List α) : xs.flatMap (fun x => [f x]) = xs.map f := by induction xs <;> simp_all
theorem open_svs {H : Type} {enc : TypeId × Value → H} {P : Program} {w : World} {base : Nat} {sp : Nat → Bool} {held : Bool} {r : Reach} {b0 : Nat} {t e : TypeId} {v : Value} {d : DataW H} {ps : List MemPlace}
    (ht : P.underlying t = some (.slice e)) (he : P.underlying e = some .string) (hc : P.cellsOf e = 1) (hval : Value.okWide P w r b0 t v) (hd : DataW.Trod enc P w base sp held t v d ps) :
    ∃ (ad : Option Addr) (cap : Nat) (xs : List (List UInt8)) (rest : List (DataW H)), v = .slice ad xs.length cap ∧ Rd w w.heap.size ad (xs.map Sv) ∧ ((d = .nil ∧ xs = []) ∨ d = .slice (xs.map fun l => .lit (.string l)) rest) := by
  obtain ⟨ad, cap, xs, rest, h1, h2, h3⟩ := open_slice (fun l => [Sv l]) (fun l => .lit (.string l)) 1 (by omega) (fun _ => rfl) ht hc (fun n cs y h => by
    obtain ⟨s, rfl, rfl, _⟩ := DataW.trod_string he h
    exact ⟨s.data.toList, by rw [Sv_eta], rfl⟩) hval hd
  exact ⟨ad, cap, xs, rest, h1, by rw [← flat_one]; exact h2, h3⟩
end Go.Proofs.YtblpgpgbnlhjlaaGreat.Sl
namespace Go.Proofs.YtblpgpgbnlhjlaaGreat
theorem own : Go.ownKnob Tryz.prog.godebug = none := by kernel_rfl
theorem laidOut : Go.laidOutB Tryz.prog = true := by kernel_rfl
end Go.Proofs.YtblpgpgbnlhjlaaGreat
