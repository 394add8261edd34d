/- Layer 2 (bset): the document's Not, Or, And; the classes agree. -/
import Derived.Test.YtgoopgnnkhpmlaaDoorDd
namespace Go.Proofs.YtgoopgnnkhpmlaaDoor
open Go Go.RowKit Sl
set_option maxRecDepth 100000
set_option maxHeartbeats 8000000
set_option linter.unusedVariables false
set_option linter.unusedSimpArgs false
attribute [local irreducible] ES EL PX wps
attribute [local irreducible] fillS memGo

theorem and_not (s t : BS) : notS (orS (notS s) (notS t)) = andS s t := bs_ext _ _ fun k _ => by
  rw [has_not, has_or, has_not, has_not, has_and]
  cases hasS s k <;> cases hasS t k <;> rfl
end Go.Proofs.YtgoopgnnkhpmlaaDoor
