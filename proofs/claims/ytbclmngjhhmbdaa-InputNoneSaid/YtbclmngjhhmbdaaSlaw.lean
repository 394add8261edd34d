/- THE BASE, last part: what closes a law's row: results, arguments, frame; arguments opened by their shape. -/
import Derived.Test.YtbclmngjhhmbdaaTy
import Derived.ProofKit
import Derived.OpenShut
import Derived.HandedShaped
import Derived.JoinedCond
import Derived.OpenVars
namespace Go.Proofs.Ytbclmngjhhmbdaa.Sl
open Go Go.RowKit Go.ChangeShapes Go.WideShapes Go.ChangeAt
set_option linter.unusedVariables false
set_option linter.unusedSimpArgs false

def rowedB (P : Program) (ts : List TypeId) : Bool := ts.all fun t => P.readableRec t && decide (t < P.types.size)
theorem trodAll_below {H : Type} {enc : TypeId × Value → H} {P : Program} (hl : laidOutB P = true) {W W' : World} (hb : Below W.heap.size W W') :
    ∀ {ts : List TypeId} {vs : List Value} {ds : List (DataW H)} {ps : List MemPlace}, rowedB P ts = true → (∀ x ∈ ps, x.block < W.heap.size) → DataW.TrodAll enc P W 0 (fun _ => true) true ts vs ds ps → DataW.TrodAll enc P W' 0 (fun b => decide (b < W.heap.size)) true ts vs ds ps
  | [], [], [], _, _, _, h => h
  | t :: ts, v :: vs, d :: ds, ps, hr, hlt, h => by
    obtain ⟨p, q, h1, h2, rfl⟩ := h
    simp only [rowedB, List.all_cons, Bool.and_eq_true, decide_eq_true_eq] at hr
    exact ⟨p, q, Below.trod hl hr.1.1 hr.1.2 h1 hb (fun x hx => hlt x (by simp [hx])), trodAll_below hl hb (by simpa [rowedB] using hr.2) (fun x hx => hlt x (by simp [hx])) h2, rfl⟩
/-- THE LAW's ROW: it returns true; each argument reads as it did. -/
theorem law_true {H : Type} {enc : TypeId × Value → H} {P : Program} (hl : laidOutB P = true) {f : Func} {tb : TypeId} {s : ChangeSpec} {W W' : World} {args : Array Value} {ds gs : List (DataW H)} {before : List MemPlace}
    (hres : f.resultTypes = #[tb]) (hu : P.underlying tb = some .bool) (hts : rowedB P f.params.toList = true) (hv : varsRowed P s.vars = true) (apart : Bool)
    (hR : (s.fn H (ds ++ gs)).results = [.lit (.bool true)]) (hA : (s.fn H (ds ++ gs)).args = ds) (hV : (s.fn H (ds ++ gs)).vars = gs)
    (hW : DataW.Whole enc P f.params.toList s.vars apart W args.toList ds gs before) (hb : Below W.heap.size W W') : s.post enc P f apart true false false W args (.bool true) W' := by
  have hlt := hW.lt
  have hW' := hW
  obtain ⟨p, q, h1, h2, rfl, h4, h5⟩ := hW
  refine ⟨ds, gs, p ++ q, [], p, q, hW', ?_, ?_, ?_, hb.frame _, fun h => by cases h⟩
  · rw [hres, hR]
    exact trodAll_mk1 (shut_bool hu true)
  · rw [hA]
    exact trodAll_below hl hb hts (fun x hx => hlt x (by simp [hx])) h1
  · rw [hV]
    exact Below.trodVars hl hb hv h2
/-- A string that came in. -/
theorem open_sv {H : Type} {enc : TypeId × Value → H} {P : Program} {w : World} {base : Nat} {sp : Nat → Bool} {held : Bool} {r : Reach} {b0 : Nat} {t : TypeId} {v : Value} {d : DataW H} {ps : List MemPlace} (ht : P.underlying t = some .string) (hval : Value.okWide P w r b0 t v) (hd : DataW.Trod enc P w base sp held t v d ps) :
    ∃ l : List UInt8, v = Sv l ∧ d = .lit (.string l) := by
  obtain ⟨s, rfl, rfl, _, _⟩ := ChangeMaps.open_string ht hval hd
  exact ⟨s.data.toList, Sv_eta s, rfl⟩
/-- A byte that came in. -/
theorem open_uv {H : Type} {enc : TypeId × Value → H} {P : Program} {w : World} {base : Nat} {sp : Nat → Bool} {held : Bool} {r : Reach} {b0 : Nat} {t : TypeId} {v : Value} {d : DataW H} {ps : List MemPlace} (ht : P.underlying t = some (.int .u8)) (hval : Value.okWide P w r b0 t v) (hd : DataW.Trod enc P w base sp held t v d ps) :
    ∃ b : UInt8, v = Uv b ∧ d = .lit (.int .u8 (b.toNat : Int)) := by
  obtain ⟨n, rfl, rfl, _, hw⟩ := open_int ht hval hd
  have hx : 0 ≤ n ∧ n ≤ 255 := by simpa [Lit.wf, IntKind.min, IntKind.max, IntKind.signed, IntKind.bits] using hw
  have : ((UInt8.ofNat n.toNat).toNat : Int) = n := by simp; omega
  exact ⟨UInt8.ofNat n.toNat, by show _ = Value.int .u8 ((UInt8.ofNat n.toNat).toNat : Int); rw [this], by rw [this]⟩
/-- An array of bytes that came in. -/
theorem open_bytes {H : Type} {enc : TypeId × Value → H} {P : Program} {w : World} {base : Nat} {sp : Nat → Bool} {held : Bool} {r : Reach} {b0 : Nat} {t e : TypeId} {n : Nat} {v : Value} {d : DataW H} {ps : List MemPlace} (ht : P.underlying t = some (.array n e)) (he : P.underlying e = some (.int .u8)) (hc : P.cellsOf t = n) (hce : P.cellsOf e = 1) (hval : Value.okWide P w r b0 t v) (hd : DataW.Trod enc P w base sp held t v d ps) :
    ∃ l : List UInt8, v = .agg (l.map Uv).toArray ∧ l.length = n := by
  unfold Value.okWide at hval
  rw [ht] at hval
  obtain ⟨cs, rfl, hsz, _⟩ := hval
  obtain ⟨fuel, hf⟩ := hd
  obtain ⟨xs, m, _, _, hlen, hxl, hel⟩ := DataW.trod_array ht hf
  simp only [Value.cells] at hlen hel
  rw [hc] at hsz
  have key : ∀ i, i < n → ∃ b : UInt8, cs[i]? = some (Uv b) := by
    intro i hi
    have h1 := hel i hi
    have hx : xs[i]? = some (xs[i]'(by omega)) := List.getElem?_eq_getElem (by omega)
    rw [hx] at h1
    obtain ⟨k, h2, _, hw⟩ := DataW.trod_int he h1
    rw [hce, Nat.mul_one] at h2
    have h3 : cs[i]? = some (.int .u8 k) := by
      have h4 : (cs.toList.drop i)[0]? = some (.int .u8 k) := by
        have : ((cs.toList.drop i).take 1)[0]? = some (.int .u8 k) := by rw [h2]; rfl
        rwa [List.getElem?_take_of_lt (by omega)] at this
      simpa using h4
    have hb : 0 ≤ k ∧ k ≤ 255 := by simpa [Lit.wf, IntKind.min, IntKind.max, IntKind.signed, IntKind.bits] using hw
    have : ((UInt8.ofNat k.toNat).toNat : Int) = k := by simp; omega
    exact ⟨UInt8.ofNat k.toNat, by show _ = some (Value.int .u8 ((UInt8.ofNat k.toNat).toNat : Int)); rw [h3, this]⟩
  refine ⟨(List.range n).map fun i => match (cs[i]? : Option Value) with | some (Value.int IntKind.u8 k) => UInt8.ofNat k.toNat | _ => 0, ?_, by simp⟩
  congr 1
  apply Array.ext'
  apply List.ext_getElem?
  intro i
  by_cases hi : i < n
  · obtain ⟨b, hb⟩ := key i hi
    have h5 : cs.toList[i]? = some (Uv b) := by simpa using hb
    rw [h5]
    simp [hi, hb]
  · have h5 : cs.toList[i]? = none := by simp; omega
    rw [h5]
    simp [hi]
theorem w_str {H : Type} {P : Program} {t : TypeId} {l : List UInt8} : DataW.weights (H := H) P t (.lit (.string l)) = [l.length] := by simp [DataW.weights]
theorem w_int {H : Type} {P : Program} {t : TypeId} {k : IntKind} {n : Int} : DataW.weights (H := H) P t (.lit (.int k n)) = [] := by simp [DataW.weights]
end Go.Proofs.Ytbclmngjhhmbdaa.Sl
namespace Go.Proofs.Ytbclmngjhhmbdaa
theorem own : Go.ownKnob Try.prog.godebug = none := by kernel_rfl
theorem laidOut : Go.laidOutB Try.prog = true := by kernel_rfl
end Go.Proofs.Ytbclmngjhhmbdaa
