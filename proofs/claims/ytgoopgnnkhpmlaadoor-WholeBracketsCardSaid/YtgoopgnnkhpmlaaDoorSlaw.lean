/- THE BASE, last part: what closes a law's row: results, arguments, frame; arguments opened by their shape. -/
import Derived.Test.YtgoopgnnkhpmlaaDoorTy
import Derived.Test.YtgoopgnnkhpmlaaDoorSlo
import Derived.ProofKit
import Derived.OpenShut
import Derived.HandedShaped
import Derived.JoinedCond
import Derived.OpenVars
namespace Go.Proofs.YtgoopgnnkhpmlaaDoor.Sl
open Go Go.RowKit Go.ChangeShapes Go.WideShapes Go.ChangeAt
set_option linter.unusedVariables false
set_option linter.unusedSimpArgs false

def rowedB (P : Program) (ts : List TypeId) : Bool := ts.all fun t => P.readableRec t && decide (t < P.types.size)
theorem trodAll_below {H : Type} {enc : TypeId × Value → H} {P : Program} (hl : laidOutB P = true) {W W' : World} (hb : Below W.heap.size W W') :
    ∀ {ts : List TypeId} {vs : List Value} {ds : List (DataW H)} {ps : List MemPlace}, rowedB P ts = true → (∀ x ∈ ps, x.block < W.heap.size) → DataW.TrodAll enc P W 0 (fun _ => true) true ts vs ds ps → DataW.TrodAll enc P W' 0 (fun b => decide (b < W.heap.size)) true ts vs ds ps
  | [], [], [], _, _, _, h => h
  | t :: ts, v :: vs, d :: ds, ps, hr, hlt, h => by
    obtain ⟨p, q, h1, h2, rfl⟩ := h
    simp only [rowedB, List.all_cons, Bool.and_eq_true, decide_eq_true_eq] at hr
    exact ⟨p, q, Below.trod hl hr.1.1 hr.1.2 h1 hb (fun x hx => hlt x (by simp [hx])), trodAll_below hl hb (by simpa [rowedB] using hr.2) (fun x hx => hlt x (by simp [hx])) h2, rfl⟩
/-- THE LAW's ROW: it returns true; each argument reads as it did. -/
theorem law_true {H : Type} {enc : TypeId × Value → H} {P : Program} (hl : laidOutB P = true) {f : Func} {tb : TypeId} {s : ChangeSpec} {W W' : World} {args : Array Value} {ds gs : List (DataW H)} {before : List MemPlace}
    (hres : f.resultTypes = #[tb]) (hu : P.underlying tb = some .bool) (hts : rowedB P f.params.toList = true) (hv : varsRowed P s.vars = true) (apart : Bool)
    (hR : (s.fn H (ds ++ gs)).results = [.lit (.bool true)]) (hA : (s.fn H (ds ++ gs)).args = ds) (hV : (s.fn H (ds ++ gs)).vars = gs)
    (hW : DataW.Whole enc P f.params.toList s.vars apart W args.toList ds gs before) (hb : Below W.heap.size W W') : s.post enc P f apart true false false W args (.bool true) W' := by
  have hlt := hW.lt
  have hW' := hW
  obtain ⟨p, q, h1, h2, rfl, h4, h5⟩ := hW
  refine ⟨ds, gs, p ++ q, [], p, q, hW', ?_, ?_, ?_, hb.frame _, fun h => by cases h⟩
  · rw [hres, hR]
    exact trodAll_mk1 (shut_bool hu true)
  · rw [hA]
    exact trodAll_below hl hb hts (fun x hx => hlt x (by simp [hx])) h1
  · rw [hV]
    exact Below.trodVars hl hb hv h2
/-- A string that came in. -/
theorem open_sv {H : Type} {enc : TypeId × Value → H} {P : Program} {w : World} {base : Nat} {sp : Nat → Bool} {held : Bool} {r : Reach} {b0 : Nat} {t : TypeId} {v : Value} {d : DataW H} {ps : List MemPlace} (ht : P.underlying t = some .string) (hval : Value.okWide P w r b0 t v) (hd : DataW.Trod enc P w base sp held t v d ps) :
    ∃ l : List UInt8, v = Sv l ∧ d = .lit (.string l) := by
  obtain ⟨s, rfl, rfl, _, _⟩ := ChangeMaps.open_string ht hval hd
  exact ⟨s.data.toList, Sv_eta s, rfl⟩
/-- A byte that came in. -/
theorem open_uv {H : Type} {enc : TypeId × Value → H} {P : Program} {w : World} {base : Nat} {sp : Nat → Bool} {held : Bool} {r : Reach} {b0 : Nat} {t : TypeId} {v : Value} {d : DataW H} {ps : List MemPlace} (ht : P.underlying t = some (.int .u8)) (hval : Value.okWide P w r b0 t v) (hd : DataW.Trod enc P w base sp held t v d ps) :
    ∃ b : UInt8, v = Uv b ∧ d = .lit (.int .u8 (b.toNat : Int)) := by
  obtain ⟨n, rfl, rfl, _, hw⟩ := open_int ht hval hd
  have hx : 0 ≤ n ∧ n ≤ 255 := by simpa [Lit.wf, IntKind.min, IntKind.max, IntKind.signed, IntKind.bits] using hw
  have : ((UInt8.ofNat n.toNat).toNat : Int) = n := by simp; omega
  exact ⟨UInt8.ofNat n.toNat, by show _ = Value.int .u8 ((UInt8.ofNat n.toNat).toNat : Int); rw [this], by rw [this]⟩
/-- An array of bytes that came in. -/
theorem open_bytes {H : Type} {enc : TypeId × Value → H} {P : Program} {w : World} {base : Nat} {sp : Nat → Bool} {held : Bool} {r : Reach} {b0 : Nat} {t e : TypeId} {n : Nat} {v : Value} {d : DataW H} {ps : List MemPlace} (ht : P.underlying t = some (.array n e)) (he : P.underlying e = some (.int .u8)) (hc : P.cellsOf t = n) (hce : P.cellsOf e = 1) (hval : Value.okWide P w r b0 t v) (hd : DataW.Trod enc P w base sp held t v d ps) :
    ∃ l : List UInt8, v = .agg (l.map Uv).toArray ∧ l.length = n := by
  unfold Value.okWide at hval
  rw [ht] at hval
  obtain ⟨cs, rfl, hsz, _⟩ := hval
  obtain ⟨fuel, hf⟩ := hd
  obtain ⟨xs, m, _, _, hlen, hxl, hel⟩ := DataW.trod_array ht hf
  simp only [Value.cells] at hlen hel
  rw [hc] at hsz
  have key : ∀ i, i < n → ∃ b : UInt8, cs[i]? = some (Uv b) := by
    intro i hi
    have h1 := hel i hi
    have hx : xs[i]? = some (xs[i]'(by omega)) := List.getElem?_eq_getElem (by omega)
    rw [hx] at h1
    obtain ⟨k, h2, _, hw⟩ := DataW.trod_int he h1
    rw [hce, Nat.mul_one] at h2
    have h3 : cs[i]? = some (.int .u8 k) := by
      have h4 : (cs.toList.drop i)[0]? = some (.int .u8 k) := by
        have : ((cs.toList.drop i).take 1)[0]? = some (.int .u8 k) := by rw [h2]; rfl
        rwa [List.getElem?_take_of_lt (by omega)] at this
      simpa using h4
    have hb : 0 ≤ k ∧ k ≤ 255 := by simpa [Lit.wf, IntKind.min, IntKind.max, IntKind.signed, IntKind.bits] using hw
    have : ((UInt8.ofNat k.toNat).toNat : Int) = k := by simp; omega
    exact ⟨UInt8.ofNat k.toNat, by show _ = some (Value.int .u8 ((UInt8.ofNat k.toNat).toNat : Int)); rw [h3, this]⟩
  refine ⟨(List.range n).map fun i => match (cs[i]? : Option Value) with | some (Value.int IntKind.u8 k) => UInt8.ofNat k.toNat | _ => 0, ?_, by simp⟩
  congr 1
  apply Array.ext'
  apply List.ext_getElem?
  intro i
  by_cases hi : i < n
  · obtain ⟨b, hb⟩ := key i hi
    have h5 : cs.toList[i]? = some (Uv b) := by simpa using hb
    rw [h5]
    simp [hi, hb]
  · have h5 : cs.toList[i]? = none := by simp; omega
    rw [h5]
    simp [hi]
theorem w_str {H : Type} {P : Program} {t : TypeId} {l : List UInt8} : DataW.weights (H := H) P t (.lit (.string l)) = [l.length] := by simp [DataW.weights]
theorem w_int {H : Type} {P : Program} {t : TypeId} {k : IntKind} {n : Int} : DataW.weights (H := H) P t (.lit (.int k n)) = [] := by simp [DataW.weights]
theorem choose_list {α : Type} {p : Nat → α → Prop} : ∀ n : Nat, (∀ i, i < n → ∃ x, p i x) → ∃ xs : List α, xs.length = n ∧ ∀ i (h : i < xs.length), p i xs[i]
  | 0, _ => ⟨[], rfl, fun i h => absurd h (by simp)⟩
  | n + 1, h => by
    obtain ⟨xs, h1, h2⟩ := choose_list n (fun i hi => h i (by omega))
    obtain ⟨x, hx⟩ := h n (by omega)
    refine ⟨xs ++ [x], by simp [h1], fun i hi => ?_⟩
    by_cases h3 : i < xs.length
    · rw [List.getElem_append_left h3]; exact h2 i h3
    · have : i = n := by simp at hi; omega
      subst this
      rw [List.getElem_append_right (by omega)]
      simpa using hx
theorem flat_get {α : Type} (f : α → List Value) (sz : Nat) (hsz : 0 < sz) (hf : ∀ x, (f x).length = sz) : ∀ (xs : List α) (j : Nat) (v : Value), (xs.flatMap f)[j]? = some v → ∃ h : j / sz < xs.length, (f xs[j / sz])[j % sz]? = some v
  | [], j, v, h => by simp at h
  | x :: xs, j, v, h => by
    rw [List.flatMap_cons] at h
    by_cases hj : j < sz
    · rw [List.getElem?_append_left (by rw [hf]; exact hj)] at h
      have h0 : j / sz = 0 := Nat.div_eq_of_lt hj
      refine ⟨by rw [h0]; simp, ?_⟩
      simp only [h0, List.getElem_cons_zero, Nat.mod_eq_of_lt hj]
      exact h
    · rw [List.getElem?_append_right (by rw [hf]; omega), hf] at h
      obtain ⟨h1, h2⟩ := flat_get f sz hsz hf xs (j - sz) v h
      have hd : j / sz = (j - sz) / sz + 1 := by rw [← Nat.add_div_right _ hsz]; congr 1; omega
      have hm : j % sz = (j - sz) % sz := (Nat.mod_eq_sub_mod (by omega))
      refine ⟨by rw [hd]; simpa using h1, ?_⟩
      simp only [hd, List.getElem_cons_succ, hm]
      exact h2
/-- A slice that came in, element by element. -/
theorem open_slice {α : Type} {H : Type} {enc : TypeId × Value → H} {P : Program} {w : World} {base : Nat} {sp : Nat → Bool} {held : Bool} {r : Reach} {b0 : Nat} {t e : TypeId} {v : Value} {d : DataW H} {ps : List MemPlace}
    (f : α → List Value) (gd : α → DataW H) (sz : Nat) (hsz : 0 < sz) (hf : ∀ x, (f x).length = sz) (ht : P.underlying t = some (.slice e)) (hc : P.cellsOf e = sz)
    (hel : ∀ n cs y, DataW.trod enc P w base sp held n e cs = some y → ∃ x : α, cs = f x ∧ y.1 = gd x)
    (hval : Value.okWide P w r b0 t v) (hd : DataW.Trod enc P w base sp held t v d ps) :
    ∃ (ad : Option Addr) (cap : Nat) (xs : List α) (rest : List (DataW H)), v = .slice ad xs.length cap ∧ Rd w w.heap.size ad (xs.flatMap f) ∧ ((d = .nil ∧ xs = []) ∨ d = .slice (xs.map gd) rest) := by
  obtain ⟨a, len, cap, rfl⟩ := okWide_slice ht hval
  obtain ⟨fuel, hfu⟩ := hd
  rcases DataW.trod_slice ht hfu with ⟨h1, h2⟩ | ⟨a', len', cap', elems, rest, n, _, h1, h2, hb, hl, hm, hlen, hel', hsp, hns⟩
  · simp only [Value.cells, Array.toList, List.cons.injEq, Value.slice.injEq, and_true] at h1
    obtain ⟨rfl, rfl, rfl⟩ := h1
    simp only [Prod.mk.injEq] at h2
    exact ⟨none, 0, [], [], rfl, fun hne => absurd rfl hne, .inl ⟨h2.1, rfl⟩⟩
  · simp only [Value.cells, Array.toList, List.cons.injEq, Value.slice.injEq, and_true] at h1
    obtain ⟨rfl, rfl, rfl⟩ := h1
    simp only [Prod.mk.injEq] at h2
    have each : ∀ i, i < len → ∃ x : α, w.cells? base (a'.add (i * sz)) sz = some (f x) ∧ ∃ y, elems[i]? = some y ∧ y.1 = gd x := by
      intro i hi
      have h3 := hel' i hi
      rw [hc] at h3
      have hy : elems[i]? = some (elems[i]'(by omega)) := List.getElem?_eq_getElem (by omega)
      rw [hy] at h3
      obtain ⟨cs, h4, h5⟩ := Option.bind_eq_some_iff.1 h3
      obtain ⟨x, rfl, h6⟩ := hel n cs _ h5
      exact ⟨x, h4, _, hy, h6⟩
    obtain ⟨xs, hxl, hx⟩ := choose_list len each
    refine ⟨some a', cap, xs, rest.map (·.1), by rw [hxl], ?_, .inr ?_⟩
    · intro hne
      have hpos : 0 < xs.length := by
        cases xs with
        | nil => exact absurd rfl hne
        | cons => simp
      have h0 := (hx 0 hpos).1
      rw [Nat.zero_mul] at h0
      have hcell := (World.cells?_some h0).2.2 0 hsz
      have hlt := World.cells?_block h0 hsz
      obtain ⟨g, off, spot⟩ := a'
      have hadd : ∀ b : Addr, b.add 0 = b := fun b => by simp [Addr.add]
      rw [hadd, hadd] at hcell
      rw [hadd] at hlt
      have hspot : spot = none := by
        cases spot with
        | none => rfl
        | some s =>
          have h7 : w.cell? ⟨g, off, some s⟩ = none := by unfold World.cell?; split <;> simp
          rw [h7] at hcell
          have h8 := hf xs[0]
          rw [List.getElem?_eq_getElem (by omega)] at hcell
          cases hcell
      subst hspot
      refine ⟨g, off, rfl, hlt, fun j v hj => ?_⟩
      obtain ⟨h9, h10⟩ := flat_get f sz hsz hf xs j v hj
      have h11 := (World.cells?_some (hx _ h9).1).2.2 (j % sz) (Nat.mod_lt _ hsz)
      rw [h10, add_n, add_n] at h11
      rw [← h11]
      congr 2
      have := Nat.div_add_mod' j sz
      omega
    · rw [h2.1]
      congr 1
      apply List.ext_getElem?
      intro i
      by_cases hi : i < len
      · obtain ⟨y, hy, hg⟩ := (hx i (by omega)).2
        simp [hy, hg, List.getElem?_eq_getElem (show i < xs.length by omega)]
      · rw [List.getElem?_eq_none (by simp; omega), List.getElem?_eq_none (by simp; omega)]
theorem flat_one {α : Type} (f : α → Value) (xs : List α) : xs.flatMap (fun x => [f x]) = xs.map f := by induction xs <;> simp_all
/-- A slice of strings that came in. -/
theorem open_svs {H : Type} {enc : TypeId × Value → H} {P : Program} {w : World} {base : Nat} {sp : Nat → Bool} {held : Bool} {r : Reach} {b0 : Nat} {t e : TypeId} {v : Value} {d : DataW H} {ps : List MemPlace}
    (ht : P.underlying t = some (.slice e)) (he : P.underlying e = some .string) (hc : P.cellsOf e = 1) (hval : Value.okWide P w r b0 t v) (hd : DataW.Trod enc P w base sp held t v d ps) :
    ∃ (ad : Option Addr) (cap : Nat) (xs : List (List UInt8)) (rest : List (DataW H)), v = .slice ad xs.length cap ∧ Rd w w.heap.size ad (xs.map Sv) ∧ ((d = .nil ∧ xs = []) ∨ d = .slice (xs.map fun l => .lit (.string l)) rest) := by
  obtain ⟨ad, cap, xs, rest, h1, h2, h3⟩ := open_slice (fun l => [Sv l]) (fun l => .lit (.string l)) 1 (by omega) (fun _ => rfl) ht hc (fun n cs y h => by
    obtain ⟨s, rfl, rfl, _⟩ := DataW.trod_string he h
    exact ⟨s.data.toList, by rw [Sv_eta], rfl⟩) hval hd
  exact ⟨ad, cap, xs, rest, h1, by rw [← flat_one]; exact h2, h3⟩
/-- A slice of bytes that came in. -/
theorem open_uvs {H : Type} {enc : TypeId × Value → H} {P : Program} {w : World} {base : Nat} {sp : Nat → Bool} {held : Bool} {r : Reach} {b0 : Nat} {t e : TypeId} {v : Value} {d : DataW H} {ps : List MemPlace}
    (ht : P.underlying t = some (.slice e)) (he : P.underlying e = some (.int .u8)) (hc : P.cellsOf e = 1) (hval : Value.okWide P w r b0 t v) (hd : DataW.Trod enc P w base sp held t v d ps) :
    ∃ (ad : Option Addr) (cap : Nat) (xs : List UInt8) (rest : List (DataW H)), v = .slice ad xs.length cap ∧ Rd w w.heap.size ad (xs.map Uv) ∧ ((d = .nil ∧ xs = []) ∨ d = .slice (xs.map fun b => .lit (.int .u8 (b.toNat : Int))) rest) := by
  obtain ⟨ad, cap, xs, rest, h1, h2, h3⟩ := open_slice (fun b => [Uv b]) (fun b : UInt8 => .lit (.int .u8 (b.toNat : Int))) 1 (by omega) (fun _ => rfl) ht hc (fun n cs y h => by
    obtain ⟨k, rfl, rfl, hw⟩ := DataW.trod_int he h
    have hb : 0 ≤ k ∧ k ≤ 255 := by simpa [Lit.wf, IntKind.min, IntKind.max, IntKind.signed, IntKind.bits] using hw
    have : ((UInt8.ofNat k.toNat).toNat : Int) = k := by simp; omega
    exact ⟨UInt8.ofNat k.toNat, by show _ = [Value.int .u8 ((UInt8.ofNat k.toNat).toNat : Int)]; rw [this], by rw [this]⟩) hval hd
  exact ⟨ad, cap, xs, rest, h1, by rw [← flat_one]; exact h2, h3⟩
/-! what a bound on the bulk gives -/
theorem bulk_pos {H : Type} (d : DataW H) : 1 ≤ Rows.uptoBulk d := by
  cases d with
  | lit l => cases l <;> simp [Rows.uptoBulk]
  | nil => simp [Rows.uptoBulk]
  | ptr d => simp [Rows.uptoBulk]
  | slice a b => simp [Rows.uptoBulk]
  | agg a => simp [Rows.uptoBulk]
  | iface t d => simp [Rows.uptoBulk]
  | map e => simp [Rows.uptoBulk]
  | held h => simp [Rows.uptoBulk]
theorem bulkAll_len {H : Type} : ∀ l : List (DataW H), l.length ≤ Rows.uptoBulkAll l
  | [] => Nat.zero_le _
  | d :: l => by
    have := bulk_pos d
    have := bulkAll_len l
    simp only [Rows.uptoBulkAll, List.length_cons]; omega
theorem bulkAll_mem {H : Type} : ∀ (l : List (DataW H)) (d : DataW H), d ∈ l → Rows.uptoBulk d ≤ Rows.uptoBulkAll l
  | [], d, h => by cases h
  | e :: l, d, h => by
    simp only [Rows.uptoBulkAll]
    rcases List.mem_cons.1 h with rfl | h
    · omega
    · have := bulkAll_mem l d h; omega
theorem svs_bulk {H : Type} (xs : List (List UInt8)) (rest : List (DataW H)) (d : DataW H) (hd : (d = .nil ∧ xs = []) ∨ d = .slice (xs.map fun l => .lit (.string l)) rest) (hb : Rows.uptoBulk d ≤ 1048576) : xs.length ≤ 1048576 ∧ (∀ l ∈ xs, l.length ≤ 1048576) ∧ xs.length + (xs.map List.length).sum ≤ 1048576 := by
  rcases hd with ⟨rfl, rfl⟩ | rfl
  · simp
  · simp only [Rows.uptoBulk] at hb
    have key : ∀ xs : List (List UInt8), xs.length + (xs.map List.length).sum ≤ Rows.uptoBulkAll (xs.map fun l => (DataW.lit (.string l) : DataW H)) := by
      intro xs
      induction xs with
      | nil => simp
      | cons l r ih => simp only [List.map_cons, Rows.uptoBulkAll, Rows.uptoBulk, List.length_cons, List.sum_cons]; omega
    have h1 := key xs
    refine ⟨by omega, fun l hl => ?_, by omega⟩
    have h2 := bulkAll_mem (xs.map fun l => (DataW.lit (.string l) : DataW H)) _ (List.mem_map.2 ⟨l, hl, rfl⟩)
    simp only [Rows.uptoBulk] at h2
    omega
theorem uvs_bulk {H : Type} (xs : List UInt8) (rest : List (DataW H)) (d : DataW H) (hd : (d = .nil ∧ xs = []) ∨ d = .slice (xs.map fun b => .lit (.int .u8 (b.toNat : Int))) rest) (hb : Rows.uptoBulk d ≤ 1048576) : xs.length ≤ 1048576 := by
  rcases hd with ⟨rfl, rfl⟩ | rfl
  · simp
  · simp only [Rows.uptoBulk] at hb
    have h1 := bulkAll_len (xs.map fun b => (DataW.lit (.int .u8 (b.toNat : Int)) : DataW H))
    rw [List.length_map] at h1
    omega
end Go.Proofs.YtgoopgnnkhpmlaaDoor.Sl
namespace Go.Proofs.YtgoopgnnkhpmlaaDoor
theorem own : Go.ownKnob Tryd.prog.godebug = none := by kernel_rfl
theorem laidOut : Go.laidOutB Tryd.prog = true := by kernel_rfl
end Go.Proofs.YtgoopgnnkhpmlaaDoor
