/- Layer 23 (input): the row of InputPlays: it is true for every input of bounded bulk. -/
import Derived.Test.YtbclmngjhhmbdaaIh
namespace Go.Proofs.Ytbclmngjhhmbdaa
open Go.ChangeShapes Go.WideShapes Go.ChangeAt
open Go Go.RowKit Sl
set_option maxRecDepth 100000
set_option maxHeartbeats 8000000
set_option linter.unusedVariables false
set_option linter.unusedSimpArgs false
attribute [local irreducible] ES EL PX wps

/-- A script that came in. -/
theorem open_ops {H : Type} {enc : TypeId × Value → H} {w : World} {base : Nat} {sp : Nat → Bool} {held : Bool} {r : Reach} {b0 : Nat} {v : Value} {d : DataW H} {ps : List MemPlace} (hval : Value.okWide Try.prog w r b0 41 v) (hd : DataW.Trod enc Try.prog w base sp held 41 v d ps) :
    ∃ (ad : Option Addr) (cap : Nat) (xs : List OpC) (rest : List (DataW H)), v = .slice ad xs.length cap ∧ Rd w w.heap.size ad (xs.flatMap opCells) ∧ ((d = .nil ∧ xs = []) ∨ d = .slice (xs.map fun o => .agg [.lit (.int .i64 o.1), .lit (.string o.2)]) rest) :=
  open_slice opCells (fun o => .agg [.lit (.int .i64 o.1), .lit (.string o.2)]) 2 (by omega) (fun _ => rfl) Try.underlying41 (by kernel_rfl) (fun n cs y h => by
    obtain ⟨xs, m, _, rfl, hl, hx, hf⟩ := DataW.trod_struct Try.underlying48 h
    have hc2 : cs.length = 2 := hl.trans (by kernel_rfl)
    have hx2 : xs.length = 2 := hx
    obtain ⟨c0, c1, rfl⟩ : ∃ c0 c1, cs = [c0, c1] := by
      match cs, hc2 with
      | [a, b], _ => exact ⟨a, b, rfl⟩
    obtain ⟨x0, x1, rfl⟩ : ∃ x0 x1, xs = [x0, x1] := by
      match xs, hx2 with
      | [a, b], _ => exact ⟨a, b, rfl⟩
    have h0 : DataW.trod enc Try.prog w base sp held m 3 (([c0, c1].drop 0).take (Try.prog.cellsOf 3)) = some x0 := hf 0 _ rfl
    have h1 : DataW.trod enc Try.prog w base sp held m 9 (([c0, c1].drop 1).take (Try.prog.cellsOf 9)) = some x1 := hf 1 _ rfl
    have e3 : Try.prog.cellsOf 3 = 1 := by kernel_rfl
    have e9 : Try.prog.cellsOf 9 = 1 := by kernel_rfl
    rw [e3] at h0
    rw [e9] at h1
    obtain ⟨k, hk, hy0, _⟩ := DataW.trod_int Try.underlying3 h0
    obtain ⟨s, hs, hy1, _⟩ := DataW.trod_string Try.underlying9 h1
    obtain rfl : c0 = .int .i64 k := by simpa using hk
    obtain rfl : c1 = .string s := by simpa using hs
    subst hy0; subst hy1
    exact ⟨(k, s.data.toList), by simp [opCells, Sv_eta], rfl⟩) hval hd
theorem ops_bulk {H : Type} (xs : List OpC) (rest : List (DataW H)) (d : DataW H) (hd : (d = .nil ∧ xs = []) ∨ d = .slice (xs.map fun o => .agg [.lit (.int .i64 o.1), .lit (.string o.2)]) rest) (hb : Rows.uptoBulk d ≤ 1048576) : xs.length ≤ 1048576 ∧ ∀ o ∈ xs, o.2.length ≤ 1048576 := by
  rcases hd with ⟨rfl, rfl⟩ | rfl
  · simp
  · simp only [Rows.uptoBulk] at hb
    have h1 := bulkAll_len (xs.map fun o => (DataW.agg [.lit (.int .i64 o.1), .lit (.string o.2)] : DataW H))
    rw [List.length_map] at h1
    refine ⟨by omega, fun o ho => ?_⟩
    have h2 := bulkAll_mem (xs.map fun o => (DataW.agg [.lit (.int .i64 o.1), .lit (.string o.2)] : DataW H)) _ (List.mem_map.2 ⟨o, ho, rfl⟩)
    simp only [Rows.uptoBulk, Rows.uptoBulkAll] at h2
    omega
theorem inputPlays_lifted (os : Os) (started : os.Started) (H : Type) (enc : TypeId × Value → H) (F : Stop.Interp) :
    ReturnsInHanded {} Try.checked os 7 .any ((Rows.OpenSpec.upto Rows.inputPlaysSpec).pre6 enc Try.prog Try.f7 Rows.inputPlaysUptoRow.domain false) (((Rows.OpenSpec.upto Rows.inputPlaysSpec).at F).post enc Try.prog Try.f7 false true false false) := by
  refine returnsInHanded_of_cond (C := Try.checked) (s := (Rows.OpenSpec.upto Rows.inputPlaysSpec)) (k := Rows.uptoSmall) rfl own started (by kernel_rfl) Try.func7
    (OpenSpec.witness (enc := enc) (C := Try.checked) (s := (Rows.OpenSpec.upto Rows.inputPlaysSpec)) (k := Rows.uptoSmall) rfl false ⟨#[], #[.slice none 0 0], []⟩ 8 (by kernel_rfl) (by kernel_rfl) (by kernel_rfl)
      (x := ([.nil], [], [])) (by kernel_rfl) rfl (by kernel_rfl)) ?_
  intro W base args ds gs before hval0 hW _ hk _
  have hval : ∀ (j : Nat) t v, Try.f7.params[j]? = some t → args[j]? = some v → Value.okWide Try.prog W .any base t v := hval0
  have hW1 : DataW.Whole enc Try.prog Try.f7.params.toList Rows.inputPlaysSpec.vars false W args.toList ds gs before := hW
  have hW' := hW1
  obtain ⟨p, q, hA0, hV, rfl, hfz, hnd⟩ := hW1
  have hA : DataW.TrodAll enc Try.prog W 0 (fun _ => true) true Try.f7.params.toList args.toList ds p := hA0
  rw [Try.params7] at hA hval
  obtain ⟨v0, vs0, d0, ds0, p0, q0, hargs0, rfl, rfl, h0, r0⟩ := trodAll_cons hA
  obtain ⟨rfl, rfl, rfl⟩ := trodAll_nil r0
  obtain rfl : args = #[v0] := by cases args; simp_all
  obtain ⟨rfl, rfl⟩ := trodVars_none hV
  obtain ⟨ad0, cap0, xs0, rest0, rfl, hrd0, hd0⟩ := open_ops (hval 0 41 v0 rfl rfl) h0
  have hb := of_decide_eq_true hk
  simp only [List.append_nil, Rows.uptoBulkAll, Rows.uptoBulk] at hb
  have ho0 := ops_bulk xs0 rest0 d0 hd0 (by omega)
  refine (plays_c ad0 cap0 xs0 ho0.1 ho0.2 W hrd0).mono fun e W' ⟨_, he, hs⟩ => ⟨_, he, ?_⟩
  exact law_true (s := Rows.inputPlaysSpec) laidOut rfl Try.underlying4 (by kernel_rfl) rfl false rfl rfl rfl hW' hs.below
theorem inputPlays_holds : Rows.InputPlaysUptoSaid :=
  OpenClaim.holds_of_cond 7 Try.f7 rfl rfl rfl rfl rfl rfl rfl ⟨rfl, rfl, rfl, rfl, rfl⟩ rfl rfl rfl rfl rfl (by kernel_rfl) Try.func7 (by kernel_rfl)
    (of_decide_eq_true (by kernel_rfl)) (by unfold Func.isWrapper; first | (rw [if_pos (by decide +kernel)]; kernel_rfl) | (rw [if_neg (by decide +kernel)]; exact ⟨rfl, rfl⟩))
    (fun os started H enc _ F => inputPlays_lifted os started H enc F)
end Go.Proofs.Ytbclmngjhhmbdaa
