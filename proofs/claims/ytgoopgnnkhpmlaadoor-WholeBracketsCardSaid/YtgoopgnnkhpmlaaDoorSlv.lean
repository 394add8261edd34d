/- THE BASE: a cut behind a code that may also leave by another way. -/
import Derived.Test.YtgoopgnnkhpmlaaDoorSlu
namespace Go.Proofs.YtgoopgnnkhpmlaaDoor.Sl
open Go Go.RowKit
set_option linter.unusedVariables false
set_option linter.unusedSimpArgs false
variable {C : Cx} {Q : Qt} {E : Env} {H : List HA}
def CutQ {X : Type} (C : Cx) (Q : Qt) (E : X → Env) (H : X → List HA) : Qt := fun e a w => match e with
  | .normal => ∃ x, At C (E x) (H x) a w
  | e => Q e a w
theorem PX.cutQ {X : Type} {Ex : X → Env} {Hx : X → List HA} (x : X) (he : Has E (Ex x)) (hh : Ent H (Hx x)) : PX C (CutQ C Q Ex Hx) .normal E H := fun a w h => ⟨x, h.sub he hh⟩
theorem PX.cutQr {X : Type} {Ex : X → Env} {Hx : X → List HA} (h : PX C Q .ret E H) : PX C (CutQ C Q Ex Hx) .ret E H := fun a w ha => h a w ha
theorem PX.cutQx {X : Type} {Ex : X → Env} {Hx : X → List HA} {i : Nat} (h : PX C Q (.exit i) E H) : PX C (CutQ C Q Ex Hx) (.exit i) E H := fun a w ha => h a w ha
theorem ES.cutQ {X : Type} {c : Code} {cs : List Code} (Ex : X → Env) (Hx : X → List HA) (h : ES C [c] (CutQ C Q Ex Hx) E H) (k : ∀ x, ES C cs Q (Ex x) (Hx x)) : ES C (c :: cs) Q E H := by
  intro a w ha
  refine wpIn_mono (h a w ha) ?_
  intro e a' w' hq
  cases e with
  | normal =>
    obtain ⟨x, hat⟩ := (hq : CutQ C Q Ex Hx .normal a' w')
    exact k x a' w' hat
  | _ => exact hq
theorem run_append_none {P : Program} (w : World) (t ty e : TypeId) (i : TypeInfo) (ht : P.underlying t = some (.slice e)) (hi : P.info? e = some i) (base : Option Addr) (sLen sCap : Nat) (hle : sLen ≤ sCap) (ad2 : Option Addr) (c : Nat) :
    (Builtin.append_ #[t, t] ty #[.slice base sLen sCap, .slice ad2 0 c]).run P w = .ok (.slice base sLen sCap) w := by
  cases base <;> cases ad2 <;> simp [Builtin.append_, run_underlying ht, sizeOf, typeInfo, hi, hle, Builtin.lenOf, Builtin.firstCells, loadCells, loadCellsFrom, storeCells, Result.andThen]
section appendrd
variable {all : Array Oper} {ops : List Oper} {d ty t : Nat} {pos : String} {af : Array Edge} {gd : Option (Nat × Bool)} {x y : Operand}
/-- append(s, xs...): s a slice of one's own, xs a slice that stood before. -/
theorem EL.appendRd {ti te : TI} {el : TypeId} {ad ad2 : Option Addr} {n cap m c : Nat} {cs news : List Value} {R : List HA} (hg : guardOk all E gd = some true) (hx : E.ev x = some (.slice ad n cap)) (hy : E.ev y = some (.slice ad2 m c)) (ht : C.T.f t = some ti) (hu : ti.u = .slice el) (hte : C.T.f el = some te)
    (hz1 : te.zero.cells.size = te.size) (hpos : Nat.blt 0 te.size = true) (hd : Nat.blt d C.n = true) (p : Pick H (HA.row (.slice ad n cap) el te.size n cs) R) (hrd : Rd C.w0 C.B ad2 news) (hl : news.length = m * te.size) (h1 : ∀ u ∈ news, u.oneCell' = true)
    (h63 : n + m ≤ maxLen) (hbytes : (n + m) * te.bytes ≤ 140737488355328)
    (k : ∀ ad' cap', EL C all ops Q ((d, .slice ad' (n + m) cap') :: E) (HA.row (.slice ad' (n + m) cap') el te.size (n + m) (cs ++ news) :: R)) :
    EL C all (⟨some d, .call { callee := .builtin .append, args := #[x, y], argTypes := #[t, t] }, ty, pos, af, gd⟩ :: ops) Q E H := by
  rcases Nat.eq_zero_or_pos m with rfl | hm
  · obtain rfl : news = [] := List.eq_nil_of_length_eq_zero (by simpa using hl)
    refine EL.val (.slice ad n cap) hg rfl hd (by simp) (fun a w ha => ?_) ?_
    · have hT := (C.T.ok t ti ht).u
      rw [hu] at hT
      obtain ⟨i, hi, hz, hs, hb⟩ := (C.T.ok el te hte).info
      have hf := row_form (ha.2.perm p.perm).head
      have hr := run_append_none (P := C.P) w t ty el i hT hi ad n cap hf.2.1 ad2 c
      simp [execOp, ha.1.ev hx, ha.1.ev hy, resolve, invoke, builtin, hr, Result.andThen]
    · intro a w ha
      have h2 := k ad cap a w
      simp only [Nat.add_zero, List.append_nil] at h2
      exact h2 ⟨ha.1, ha.2.perm p.perm⟩
  · have hpz : 0 < te.size := by simpa using hpos
    obtain ⟨g, off, rfl, hgB, _⟩ := hrd (by
      intro e; subst e
      have := Nat.mul_pos hm hpz
      simp at hl; omega)
    exact EL.append hg hx hy ht hu hte hz1 hpos hd p hl hm (fun w hs j u hj => by
      obtain ⟨g', off', h1', h2', h3'⟩ := hrd.sat hs (by intro e; subst e; simp at hj)
      cases h1'
      rw [add_n]; exact h3' j u hj) h1 h63 hbytes (fun g' cap' => k _ cap')
end appendrd
end Go.Proofs.YtgoopgnnkhpmlaaDoor.Sl
