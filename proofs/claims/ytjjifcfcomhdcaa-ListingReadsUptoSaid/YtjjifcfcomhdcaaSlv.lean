/- THE BASE: a cut behind a code that may also leave by another way. -/
import Derived.Test.YtjjifcfcomhdcaaSlu
namespace Go.Proofs.Ytjjifcfcomhdcaa.Sl
open Go Go.RowKit
set_option linter.unusedVariables false
set_option linter.unusedSimpArgs false
variable {C : Cx} {Q : Qt} {E : Env} {H : List HA}
def CutQ {X : Type} (C : Cx) (Q : Qt) (E : X → Env) (H : X → List HA) : Qt := fun e a w => match e with
  | .normal => ∃ x, At C (E x) (H x) a w
  | e => Q e a w
theorem PX.cutQ {X : Type} {Ex : X → Env} {Hx : X → List HA} (x : X) (he : Has E (Ex x)) (hh : Ent H (Hx x)) : PX C (CutQ C Q Ex Hx) .normal E H := fun a w h => ⟨x, h.sub he hh⟩
theorem PX.cutQr {X : Type} {Ex : X → Env} {Hx : X → List HA} (h : PX C Q .ret E H) : PX C (CutQ C Q Ex Hx) .ret E H := fun a w ha => h a w ha
theorem PX.cutQx {X : Type} {Ex : X → Env} {Hx : X → List HA} {i : Nat} (h : PX C Q (.exit i) E H) : PX C (CutQ C Q Ex Hx) (.exit i) E H := fun a w ha => h a w ha
theorem ES.cutQ {X : Type} {c : Code} {cs : List Code} (Ex : X → Env) (Hx : X → List HA) (h : ES C [c] (CutQ C Q Ex Hx) E H) (k : ∀ x, ES C cs Q (Ex x) (Hx x)) : ES C (c :: cs) Q E H := by
  intro a w ha
  refine wpIn_mono (h a w ha) ?_
  intro e a' w' hq
  cases e with
  | normal =>
    obtain ⟨x, hat⟩ := (hq : CutQ C Q Ex Hx .normal a' w')
    exact k x a' w' hat
  | _ => exact hq
end Go.Proofs.Ytjjifcfcomhdcaa.Sl
