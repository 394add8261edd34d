/- Texts of this claim, bundled. -/
import Derived.Test.YthcbjbkheodejaaGreatZg1
set_option linter.unusedVariables false
set_option linter.unusedSimpArgs false
namespace Go.Proofs.YthcbjbkheodejaaGreat
open Go Go.RowKit Sl
set_option maxRecDepth 100000
set_option maxHeartbeats 8000000
attribute [local irreducible] ES EL PX wps
attribute [local irreducible] fillS
theorem is_c (l : List UInt8) (b : UInt8) (w : World) : Pure Tryz.prog 132 #[Sv l, Uv b] (fun _ : Unit => .tuple #[.bool (isB l b.toNat), .bool (okM l)]) (fun _ => []) w := by
  have hb := b.toNat_lt
  refine calls_of_ES TB Tryz.func132 rfl _ Tryz.ntmps132 rfl (Sat.start w) ?_; refine .go ?_; (repeat constructor); refine .as_ ?_; refine .as_ ?_; refine .go ?_; (repeat constructor); refine EL.cut [(0, Sv l), (1, Uv b), (6, .bool (bUp b.toNat)), (7, .bool (bLo b.toNat)), (8, .bool (bDi b.toNat))] [] ?_ ?_
  · refine .go ?_; (repeat constructor); refine .mv ?_; refine .gq ?_; refine .mv ?_
    first | refine EL.splitD (d := 12) rfl (fun hp12 => ?_) (fun hp12 => ?_) | refine EL.splitN (d := 12) rfl (fun hp12 => ?_) (fun hp12 => ?_) | refine EL.splitB (d := 12) rfl (fun hp12 => ?_) (fun hp12 => ?_)
    · refine .mv ?_; refine .lq ?_; refine .pt ?_; refine .mv ?_; refine .gq ?_; refine .mv ?_
      first | refine EL.splitD (d := 18) rfl (fun hp18 => ?_) (fun hp18 => ?_) | refine EL.splitN (d := 18) rfl (fun hp18 => ?_) (fun hp18 => ?_) | refine EL.splitB (d := 18) rfl (fun hp18 => ?_) (fun hp18 => ?_)
      · refine .mv ?_; refine .lq ?_; refine .pt ?_; refine .mv ?_; refine .gq ?_; refine .mv ?_
        first | refine EL.splitD (d := 24) rfl (fun hp24 => ?_) (fun hp24 => ?_) | refine EL.splitN (d := 24) rfl (fun hp24 => ?_) (fun hp24 => ?_) | refine EL.splitB (d := 24) rfl (fun hp24 => ?_) (fun hp24 => ?_)
        · refine .mv ?_; refine .lq ?_; refine .pt ?_; refine .as_ ?_; refine .as_ ?_; refine .as_ ?_
          exact .kx ⟨rfl, rfl, getB rfl (by first | exact decide_eq_decide.2 (by omega) | exact Eq.trans decide_not.symm (decide_eq_decide.2 (by omega)) | exact (decide_eq_false (by omega)).symm | exact (decide_eq_true (by omega)).symm), getB rfl (by first | exact decide_eq_decide.2 (by omega) | exact Eq.trans decide_not.symm (decide_eq_decide.2 (by omega)) | exact (decide_eq_false (by omega)).symm | exact (decide_eq_true (by omega)).symm), getB rfl (by first | exact decide_eq_decide.2 (by omega) | exact Eq.trans decide_not.symm (decide_eq_decide.2 (by omega)) | exact (decide_eq_false (by omega)).symm | exact (decide_eq_true (by omega)).symm), trivial⟩
        · refine .ps ?_; refine .ps ?_; refine .pf ?_; refine .as_ ?_; refine .as_ ?_; refine .as_ ?_
          exact .kx ⟨rfl, rfl, getB rfl (by first | exact decide_eq_decide.2 (by omega) | exact Eq.trans decide_not.symm (decide_eq_decide.2 (by omega)) | exact (decide_eq_false (by omega)).symm | exact (decide_eq_true (by omega)).symm), getB rfl (by first | exact decide_eq_decide.2 (by omega) | exact Eq.trans decide_not.symm (decide_eq_decide.2 (by omega)) | exact (decide_eq_false (by omega)).symm | exact (decide_eq_true (by omega)).symm), getB rfl (by first | exact decide_eq_decide.2 (by omega) | exact Eq.trans decide_not.symm (decide_eq_decide.2 (by omega)) | exact (decide_eq_false (by omega)).symm | exact (decide_eq_true (by omega)).symm), trivial⟩
      · refine .ps ?_; refine .ps ?_; refine .pf ?_; refine .mv ?_; refine .gq ?_; refine .mv ?_
        first | refine EL.splitD (d := 24) rfl (fun hp24 => ?_) (fun hp24 => ?_) | refine EL.splitN (d := 24) rfl (fun hp24 => ?_) (fun hp24 => ?_) | refine EL.splitB (d := 24) rfl (fun hp24 => ?_) (fun hp24 => ?_)
        · refine .mv ?_; refine .lq ?_; refine .pt ?_; refine .as_ ?_; refine .as_ ?_; refine .as_ ?_
          exact .kx ⟨rfl, rfl, getB rfl (by first | exact decide_eq_decide.2 (by omega) | exact Eq.trans decide_not.symm (decide_eq_decide.2 (by omega)) | exact (decide_eq_false (by omega)).symm | exact (decide_eq_true (by omega)).symm), getB rfl (by first | exact decide_eq_decide.2 (by omega) | exact Eq.trans decide_not.symm (decide_eq_decide.2 (by omega)) | exact (decide_eq_false (by omega)).symm | exact (decide_eq_true (by omega)).symm), getB rfl (by first | exact decide_eq_decide.2 (by omega) | exact Eq.trans decide_not.symm (decide_eq_decide.2 (by omega)) | exact (decide_eq_false (by omega)).symm | exact (decide_eq_true (by omega)).symm), trivial⟩
        · refine .ps ?_; refine .ps ?_; refine .pf ?_; refine .as_ ?_; refine .as_ ?_; refine .as_ ?_
          exact .kx ⟨rfl, rfl, getB rfl (by first | exact decide_eq_decide.2 (by omega) | exact Eq.trans decide_not.symm (decide_eq_decide.2 (by omega)) | exact (decide_eq_false (by omega)).symm | exact (decide_eq_true (by omega)).symm), getB rfl (by first | exact decide_eq_decide.2 (by omega) | exact Eq.trans decide_not.symm (decide_eq_decide.2 (by omega)) | exact (decide_eq_false (by omega)).symm | exact (decide_eq_true (by omega)).symm), getB rfl (by first | exact decide_eq_decide.2 (by omega) | exact Eq.trans decide_not.symm (decide_eq_decide.2 (by omega)) | exact (decide_eq_false (by omega)).symm | exact (decide_eq_true (by omega)).symm), trivial⟩
    · refine .ps ?_; refine .ps ?_; refine .pf ?_; refine .mv ?_; refine .gq ?_; refine .mv ?_
      first | refine EL.splitD (d := 18) rfl (fun hp18 => ?_) (fun hp18 => ?_) | refine EL.splitN (d := 18) rfl (fun hp18 => ?_) (fun hp18 => ?_) | refine EL.splitB (d := 18) rfl (fun hp18 => ?_) (fun hp18 => ?_)
      · refine .mv ?_; refine .lq ?_; refine .pt ?_; refine .mv ?_; refine .gq ?_; refine .mv ?_
        first | refine EL.splitD (d := 24) rfl (fun hp24 => ?_) (fun hp24 => ?_) | refine EL.splitN (d := 24) rfl (fun hp24 => ?_) (fun hp24 => ?_) | refine EL.splitB (d := 24) rfl (fun hp24 => ?_) (fun hp24 => ?_)
        · refine .mv ?_; refine .lq ?_; refine .pt ?_; refine .as_ ?_; refine .as_ ?_; refine .as_ ?_
          exact .kx ⟨rfl, rfl, getB rfl (by first | exact decide_eq_decide.2 (by omega) | exact Eq.trans decide_not.symm (decide_eq_decide.2 (by omega)) | exact (decide_eq_false (by omega)).symm | exact (decide_eq_true (by omega)).symm), getB rfl (by first | exact decide_eq_decide.2 (by omega) | exact Eq.trans decide_not.symm (decide_eq_decide.2 (by omega)) | exact (decide_eq_false (by omega)).symm | exact (decide_eq_true (by omega)).symm), getB rfl (by first | exact decide_eq_decide.2 (by omega) | exact Eq.trans decide_not.symm (decide_eq_decide.2 (by omega)) | exact (decide_eq_false (by omega)).symm | exact (decide_eq_true (by omega)).symm), trivial⟩
        · refine .ps ?_; refine .ps ?_; refine .pf ?_; refine .as_ ?_; refine .as_ ?_; refine .as_ ?_
          exact .kx ⟨rfl, rfl, getB rfl (by first | exact decide_eq_decide.2 (by omega) | exact Eq.trans decide_not.symm (decide_eq_decide.2 (by omega)) | exact (decide_eq_false (by omega)).symm | exact (decide_eq_true (by omega)).symm), getB rfl (by first | exact decide_eq_decide.2 (by omega) | exact Eq.trans decide_not.symm (decide_eq_decide.2 (by omega)) | exact (decide_eq_false (by omega)).symm | exact (decide_eq_true (by omega)).symm), getB rfl (by first | exact decide_eq_decide.2 (by omega) | exact Eq.trans decide_not.symm (decide_eq_decide.2 (by omega)) | exact (decide_eq_false (by omega)).symm | exact (decide_eq_true (by omega)).symm), trivial⟩
      · refine .ps ?_; refine .ps ?_; refine .pf ?_; refine .mv ?_; refine .gq ?_; refine .mv ?_
        first | refine EL.splitD (d := 24) rfl (fun hp24 => ?_) (fun hp24 => ?_) | refine EL.splitN (d := 24) rfl (fun hp24 => ?_) (fun hp24 => ?_) | refine EL.splitB (d := 24) rfl (fun hp24 => ?_) (fun hp24 => ?_)
        · refine .mv ?_; refine .lq ?_; refine .pt ?_; refine .as_ ?_; refine .as_ ?_; refine .as_ ?_
          exact .kx ⟨rfl, rfl, getB rfl (by first | exact decide_eq_decide.2 (by omega) | exact Eq.trans decide_not.symm (decide_eq_decide.2 (by omega)) | exact (decide_eq_false (by omega)).symm | exact (decide_eq_true (by omega)).symm), getB rfl (by first | exact decide_eq_decide.2 (by omega) | exact Eq.trans decide_not.symm (decide_eq_decide.2 (by omega)) | exact (decide_eq_false (by omega)).symm | exact (decide_eq_true (by omega)).symm), getB rfl (by first | exact decide_eq_decide.2 (by omega) | exact Eq.trans decide_not.symm (decide_eq_decide.2 (by omega)) | exact (decide_eq_false (by omega)).symm | exact (decide_eq_true (by omega)).symm), trivial⟩
        · refine .ps ?_; refine .ps ?_; refine .pf ?_; refine .as_ ?_; refine .as_ ?_; refine .as_ ?_
          exact .kx ⟨rfl, rfl, getB rfl (by first | exact decide_eq_decide.2 (by omega) | exact Eq.trans decide_not.symm (decide_eq_decide.2 (by omega)) | exact (decide_eq_false (by omega)).symm | exact (decide_eq_true (by omega)).symm), getB rfl (by first | exact decide_eq_decide.2 (by omega) | exact Eq.trans decide_not.symm (decide_eq_decide.2 (by omega)) | exact (decide_eq_false (by omega)).symm | exact (decide_eq_true (by omega)).symm), getB rfl (by first | exact decide_eq_decide.2 (by omega) | exact Eq.trans decide_not.symm (decide_eq_decide.2 (by omega)) | exact (decide_eq_false (by omega)).symm | exact (decide_eq_true (by omega)).symm), trivial⟩
  refine .go ?_; (repeat constructor); refine EL.cut [(0, Sv l), (1, Uv b), (6, .bool (bUp b.toNat)), (7, .bool (bLo b.toNat)), (8, .bool (bDi b.toNat)), (9, .bool (bGr b.toNat))] [] ?_ ?_
  · refine .go ?_; (repeat constructor); refine .mv ?_; refine .gt_ ?_; refine .mv ?_
    first | refine EL.splitD (d := 30) rfl (fun hp30 => ?_) (fun hp30 => ?_) | refine EL.splitN (d := 30) rfl (fun hp30 => ?_) (fun hp30 => ?_) | refine EL.splitB (d := 30) rfl (fun hp30 => ?_) (fun hp30 => ?_)
    · refine .mv ?_; refine .ls ?_; refine .pt ?_; refine .as_ ?_
      exact .kx ⟨rfl, rfl, rfl, rfl, rfl, getB rfl (by first | exact decide_eq_decide.2 (by omega) | exact Eq.trans decide_not.symm (decide_eq_decide.2 (by omega)) | exact (decide_eq_false (by omega)).symm | exact (decide_eq_true (by omega)).symm), trivial⟩
    · refine .ps ?_; refine .ps ?_; refine .pf ?_; refine .as_ ?_
      exact .kx ⟨rfl, rfl, rfl, rfl, rfl, getB rfl (by first | exact decide_eq_decide.2 (by omega) | exact Eq.trans decide_not.symm (decide_eq_decide.2 (by omega)) | exact (decide_eq_false (by omega)).symm | exact (decide_eq_true (by omega)).symm), trivial⟩
  refine .go ?_; (repeat constructor); refine .mv ?_; refine .go ?_; (repeat constructor); refine .eS ?_; refine .as_ ?_; refine .go ?_; repeat constructor
  refine ES.condD rfl (fun he0 => ?_) (fun hn0 => ?_)
  · subst he0
    refine .go ?_; (repeat constructor); refine .mv ?_; refine .mv ?_
    first | refine EL.splitD (d := 38) rfl (fun hp38 => ?_) (fun hp38 => ?_) | refine EL.splitN (d := 38) rfl (fun hp38 => ?_) (fun hp38 => ?_) | refine EL.splitB (d := 38) rfl (fun hp38 => ?_) (fun hp38 => ?_)
    · refine .ps ?_; refine .pt ?_; refine .as_ ?_; refine .as_ ?_
      focus ((refine .go ?_; repeat constructor); exact PX.ret rfl Tryz.results132 (.cons (.tmp rfl) (.cons (.tmp rfl) .nil)) (fun w hs => ⟨(), congrArg (fun x => Ending.returned (.tuple #[.bool x, .bool true])) (by first | exact decide_eq_decide.2 (by omega) | exact Eq.trans decide_not.symm (decide_eq_decide.2 (by omega)) | exact (decide_eq_false (by omega)).symm | exact (decide_eq_true (by omega)).symm), hs.ent (.nil _)⟩))
    · refine .mv ?_; refine .pf ?_; refine .as_ ?_; refine .as_ ?_
      focus ((refine .go ?_; repeat constructor); exact PX.ret rfl Tryz.results132 (.cons (.tmp rfl) (.cons (.tmp rfl) .nil)) (fun w hs => ⟨(), congrArg (fun x => Ending.returned (.tuple #[.bool x, .bool true])) (by first | exact decide_eq_decide.2 (by omega) | exact Eq.trans decide_not.symm (decide_eq_decide.2 (by omega)) | exact (decide_eq_false (by omega)).symm | exact (decide_eq_true (by omega)).symm), hs.ent (.nil _)⟩))
  refine .go ?_; (repeat constructor); refine .eS ?_; refine .as_ ?_; refine .go ?_; repeat constructor
  refine ES.condD rfl (fun he1 => ?_) (fun hn1 => ?_)
  · subst he1
    refine .go ?_; (repeat constructor); refine .mv ?_; refine .as_ ?_; refine .as_ ?_
    focus ((refine .go ?_; repeat constructor); exact PX.ret rfl Tryz.results132 (.cons (.tmp rfl) (.cons (.tmp rfl) .nil)) (fun w hs => ⟨(), congrArg (fun x => Ending.returned (.tuple #[.bool x, .bool true])) (by first | exact decide_eq_decide.2 (by omega) | exact Eq.trans decide_not.symm (decide_eq_decide.2 (by omega)) | exact (decide_eq_false (by omega)).symm | exact (decide_eq_true (by omega)).symm), hs.ent (.nil _)⟩))
  refine .go ?_; (repeat constructor); refine .eS ?_; refine .as_ ?_; refine .go ?_; repeat constructor
  refine ES.condD rfl (fun he2 => ?_) (fun hn2 => ?_)
  · subst he2
    refine .go ?_; (repeat constructor); refine .mv ?_; refine .mv ?_
    first | refine EL.splitD (d := 47) rfl (fun hp47 => ?_) (fun hp47 => ?_) | refine EL.splitN (d := 47) rfl (fun hp47 => ?_) (fun hp47 => ?_) | refine EL.splitB (d := 47) rfl (fun hp47 => ?_) (fun hp47 => ?_)
    · refine .ps ?_; refine .pt ?_; refine .mv ?_; refine .ps ?_; refine .pt ?_; refine .as_ ?_; refine .as_ ?_
      focus ((refine .go ?_; repeat constructor); exact PX.ret rfl Tryz.results132 (.cons (.tmp rfl) (.cons (.tmp rfl) .nil)) (fun w hs => ⟨(), congrArg (fun x => Ending.returned (.tuple #[.bool x, .bool true])) (by first | exact decide_eq_decide.2 (by omega) | exact Eq.trans decide_not.symm (decide_eq_decide.2 (by omega)) | exact (decide_eq_false (by omega)).symm | exact (decide_eq_true (by omega)).symm), hs.ent (.nil _)⟩))
    · refine .mv ?_; refine .pf ?_; refine .mv ?_
      first | refine EL.splitD (d := 50) rfl (fun hp50 => ?_) (fun hp50 => ?_) | refine EL.splitN (d := 50) rfl (fun hp50 => ?_) (fun hp50 => ?_) | refine EL.splitB (d := 50) rfl (fun hp50 => ?_) (fun hp50 => ?_)
      · refine .ps ?_; refine .pt ?_; refine .as_ ?_; refine .as_ ?_
        focus ((refine .go ?_; repeat constructor); exact PX.ret rfl Tryz.results132 (.cons (.tmp rfl) (.cons (.tmp rfl) .nil)) (fun w hs => ⟨(), congrArg (fun x => Ending.returned (.tuple #[.bool x, .bool true])) (by first | exact decide_eq_decide.2 (by omega) | exact Eq.trans decide_not.symm (decide_eq_decide.2 (by omega)) | exact (decide_eq_false (by omega)).symm | exact (decide_eq_true (by omega)).symm), hs.ent (.nil _)⟩))
      · refine .mv ?_; refine .pf ?_; refine .as_ ?_; refine .as_ ?_
        focus ((refine .go ?_; repeat constructor); exact PX.ret rfl Tryz.results132 (.cons (.tmp rfl) (.cons (.tmp rfl) .nil)) (fun w hs => ⟨(), congrArg (fun x => Ending.returned (.tuple #[.bool x, .bool true])) (by first | exact decide_eq_decide.2 (by omega) | exact Eq.trans decide_not.symm (decide_eq_decide.2 (by omega)) | exact (decide_eq_false (by omega)).symm | exact (decide_eq_true (by omega)).symm), hs.ent (.nil _)⟩))
  refine .go ?_; (repeat constructor); refine .eS ?_; refine .as_ ?_; refine .go ?_; repeat constructor
  refine ES.condD rfl (fun he3 => ?_) (fun hn3 => ?_)
  · subst he3
    refine .go ?_; (repeat constructor); refine .mv ?_; refine .as_ ?_; refine .as_ ?_
    focus ((refine .go ?_; repeat constructor); exact PX.ret rfl Tryz.results132 (.cons (.tmp rfl) (.cons (.tmp rfl) .nil)) (fun w hs => ⟨(), congrArg (fun x => Ending.returned (.tuple #[.bool x, .bool true])) (by first | exact decide_eq_decide.2 (by omega) | exact Eq.trans decide_not.symm (decide_eq_decide.2 (by omega)) | exact (decide_eq_false (by omega)).symm | exact (decide_eq_true (by omega)).symm), hs.ent (.nil _)⟩))
  refine .go ?_; (repeat constructor); refine .eS ?_; refine .as_ ?_; refine .go ?_; repeat constructor
  refine ES.condD rfl (fun he4 => ?_) (fun hn4 => ?_)
  · subst he4
    refine .go ?_; (repeat constructor); refine .mv ?_; refine .as_ ?_; refine .as_ ?_
    focus ((refine .go ?_; repeat constructor); exact PX.ret rfl Tryz.results132 (.cons (.tmp rfl) (.cons (.tmp rfl) .nil)) (fun w hs => ⟨(), congrArg (fun x => Ending.returned (.tuple #[.bool x, .bool true])) (by first | exact decide_eq_decide.2 (by omega) | exact Eq.trans decide_not.symm (decide_eq_decide.2 (by omega)) | exact (decide_eq_false (by omega)).symm | exact (decide_eq_true (by omega)).symm), hs.ent (.nil _)⟩))
  refine .go ?_; (repeat constructor); refine .eS ?_; refine .as_ ?_; refine .go ?_; repeat constructor
  refine ES.condD rfl (fun he5 => ?_) (fun hn5 => ?_)
  · subst he5
    refine .go ?_; (repeat constructor); refine .mv ?_; refine .ei ?_; refine .mv ?_
    first | refine EL.splitD (d := 63) rfl (fun hp63 => ?_) (fun hp63 => ?_) | refine EL.splitN (d := 63) rfl (fun hp63 => ?_) (fun hp63 => ?_) | refine EL.splitB (d := 63) rfl (fun hp63 => ?_) (fun hp63 => ?_)
    · refine .ps ?_; refine .ps ?_; refine .ps ?_; refine .ps ?_; refine .ps ?_; refine .ps ?_; refine .pt ?_; refine .as_ ?_; refine .as_ ?_
      focus ((refine .go ?_; repeat constructor); exact PX.ret rfl Tryz.results132 (.cons (.tmp rfl) (.cons (.tmp rfl) .nil)) (fun w hs => ⟨(), congrArg (fun x => Ending.returned (.tuple #[.bool x, .bool true])) (by first | exact decide_eq_decide.2 (by omega) | exact Eq.trans decide_not.symm (decide_eq_decide.2 (by omega)) | exact (decide_eq_false (by omega)).symm | exact (decide_eq_true (by omega)).symm), hs.ent (.nil _)⟩))
    · refine .mv ?_; refine .gq ?_; refine .mv ?_
      first | refine EL.splitD (d := 66) rfl (fun hp66 => ?_) (fun hp66 => ?_) | refine EL.splitN (d := 66) rfl (fun hp66 => ?_) (fun hp66 => ?_) | refine EL.splitB (d := 66) rfl (fun hp66 => ?_) (fun hp66 => ?_)
      · refine .mv ?_; refine .lq ?_; refine .pt ?_; refine .pf ?_; refine .as_ ?_; refine .as_ ?_
        focus ((refine .go ?_; repeat constructor); exact PX.ret rfl Tryz.results132 (.cons (.tmp rfl) (.cons (.tmp rfl) .nil)) (fun w hs => ⟨(), congrArg (fun x => Ending.returned (.tuple #[.bool x, .bool true])) (by first | exact decide_eq_decide.2 (by omega) | exact Eq.trans decide_not.symm (decide_eq_decide.2 (by omega)) | exact (decide_eq_false (by omega)).symm | exact (decide_eq_true (by omega)).symm), hs.ent (.nil _)⟩))
      · refine .ps ?_; refine .ps ?_; refine .pf ?_; refine .pf ?_; refine .as_ ?_; refine .as_ ?_
        focus ((refine .go ?_; repeat constructor); exact PX.ret rfl Tryz.results132 (.cons (.tmp rfl) (.cons (.tmp rfl) .nil)) (fun w hs => ⟨(), congrArg (fun x => Ending.returned (.tuple #[.bool x, .bool true])) (by first | exact decide_eq_decide.2 (by omega) | exact Eq.trans decide_not.symm (decide_eq_decide.2 (by omega)) | exact (decide_eq_false (by omega)).symm | exact (decide_eq_true (by omega)).symm), hs.ent (.nil _)⟩))
  refine .go ?_; (repeat constructor); refine .eS ?_; refine .as_ ?_; refine .go ?_; repeat constructor
  refine ES.condD rfl (fun he6 => ?_) (fun hn6 => ?_)
  · subst he6
    refine .go ?_; (repeat constructor); refine .mv ?_; refine .ei ?_; refine .mv ?_
    first | refine EL.splitD (d := 75) rfl (fun hp75 => ?_) (fun hp75 => ?_) | refine EL.splitN (d := 75) rfl (fun hp75 => ?_) (fun hp75 => ?_) | refine EL.splitB (d := 75) rfl (fun hp75 => ?_) (fun hp75 => ?_)
    · refine .ps ?_; refine .ps ?_; refine .pt ?_; refine .as_ ?_; refine .as_ ?_
      focus ((refine .go ?_; repeat constructor); exact PX.ret rfl Tryz.results132 (.cons (.tmp rfl) (.cons (.tmp rfl) .nil)) (fun w hs => ⟨(), congrArg (fun x => Ending.returned (.tuple #[.bool x, .bool true])) (by first | exact decide_eq_decide.2 (by omega) | exact Eq.trans decide_not.symm (decide_eq_decide.2 (by omega)) | exact (decide_eq_false (by omega)).symm | exact (decide_eq_true (by omega)).symm), hs.ent (.nil _)⟩))
    · refine .mv ?_; refine .ei ?_; refine .pf ?_; refine .as_ ?_; refine .as_ ?_
      focus ((refine .go ?_; repeat constructor); exact PX.ret rfl Tryz.results132 (.cons (.tmp rfl) (.cons (.tmp rfl) .nil)) (fun w hs => ⟨(), congrArg (fun x => Ending.returned (.tuple #[.bool x, .bool true])) (by first | exact decide_eq_decide.2 (by omega) | exact Eq.trans decide_not.symm (decide_eq_decide.2 (by omega)) | exact (decide_eq_false (by omega)).symm | exact (decide_eq_true (by omega)).symm), hs.ent (.nil _)⟩))
  refine .go ?_; (repeat constructor); refine .eS ?_; refine .as_ ?_; refine .go ?_; repeat constructor
  refine ES.condD rfl (fun he7 => ?_) (fun hn7 => ?_)
  · subst he7
    refine .go ?_; (repeat constructor); refine .mv ?_; refine .as_ ?_; refine .as_ ?_
    focus ((refine .go ?_; repeat constructor); exact PX.ret rfl Tryz.results132 (.cons (.tmp rfl) (.cons (.tmp rfl) .nil)) (fun w hs => ⟨(), congrArg (fun x => Ending.returned (.tuple #[.bool x, .bool true])) (by first | exact decide_eq_decide.2 (by omega) | exact Eq.trans decide_not.symm (decide_eq_decide.2 (by omega)) | exact (decide_eq_false (by omega)).symm | exact (decide_eq_true (by omega)).symm), hs.ent (.nil _)⟩))
  refine .go ?_; (repeat constructor); refine .eS ?_; refine .as_ ?_; refine .go ?_; repeat constructor
  refine ES.condD rfl (fun he8 => ?_) (fun hn8 => ?_)
  · subst he8
    refine .go ?_; (repeat constructor); refine .mv ?_; refine .mv ?_
    first | refine EL.splitD (d := 85) rfl (fun hp85 => ?_) (fun hp85 => ?_) | refine EL.splitN (d := 85) rfl (fun hp85 => ?_) (fun hp85 => ?_) | refine EL.splitB (d := 85) rfl (fun hp85 => ?_) (fun hp85 => ?_)
    · refine .ps ?_; refine .ps ?_; refine .pt ?_; refine .as_ ?_; refine .as_ ?_
      focus ((refine .go ?_; repeat constructor); exact PX.ret rfl Tryz.results132 (.cons (.tmp rfl) (.cons (.tmp rfl) .nil)) (fun w hs => ⟨(), congrArg (fun x => Ending.returned (.tuple #[.bool x, .bool true])) (by first | exact decide_eq_decide.2 (by omega) | exact Eq.trans decide_not.symm (decide_eq_decide.2 (by omega)) | exact (decide_eq_false (by omega)).symm | exact (decide_eq_true (by omega)).symm), hs.ent (.nil _)⟩))
    · refine .mv ?_; refine .ei ?_; refine .pf ?_; refine .as_ ?_; refine .as_ ?_
      focus ((refine .go ?_; repeat constructor); exact PX.ret rfl Tryz.results132 (.cons (.tmp rfl) (.cons (.tmp rfl) .nil)) (fun w hs => ⟨(), congrArg (fun x => Ending.returned (.tuple #[.bool x, .bool true])) (by first | exact decide_eq_decide.2 (by omega) | exact Eq.trans decide_not.symm (decide_eq_decide.2 (by omega)) | exact (decide_eq_false (by omega)).symm | exact (decide_eq_true (by omega)).symm), hs.ent (.nil _)⟩))
  refine .go ?_; (repeat constructor); refine .eS ?_; refine .as_ ?_; refine .go ?_; repeat constructor
  refine ES.condD rfl (fun he9 => ?_) (fun hn9 => ?_)
  · subst he9
    refine .go ?_; (repeat constructor); refine .mv ?_; refine .mv ?_
    first | refine EL.splitD (d := 92) rfl (fun hp92 => ?_) (fun hp92 => ?_) | refine EL.splitN (d := 92) rfl (fun hp92 => ?_) (fun hp92 => ?_) | refine EL.splitB (d := 92) rfl (fun hp92 => ?_) (fun hp92 => ?_)
    · refine .mv ?_; refine .nt ?_; refine .pt ?_; refine .mv ?_
      first | refine EL.splitD (d := 96) rfl (fun hp96 => ?_) (fun hp96 => ?_) | refine EL.splitN (d := 96) rfl (fun hp96 => ?_) (fun hp96 => ?_) | refine EL.splitB (d := 96) rfl (fun hp96 => ?_) (fun hp96 => ?_)
      · refine .mv ?_; refine .nt ?_; refine .pt ?_; refine .mv ?_
        first | refine EL.splitD (d := 100) rfl (fun hp100 => ?_) (fun hp100 => ?_) | refine EL.splitN (d := 100) rfl (fun hp100 => ?_) (fun hp100 => ?_) | refine EL.splitB (d := 100) rfl (fun hp100 => ?_) (fun hp100 => ?_)
        · refine .mv ?_; refine .nt ?_; refine .pt ?_; refine .as_ ?_; refine .as_ ?_
          focus ((refine .go ?_; repeat constructor); exact PX.ret rfl Tryz.results132 (.cons (.tmp rfl) (.cons (.tmp rfl) .nil)) (fun w hs => ⟨(), congrArg (fun x => Ending.returned (.tuple #[.bool x, .bool true])) (by first | exact decide_eq_decide.2 (by omega) | exact Eq.trans decide_not.symm (decide_eq_decide.2 (by omega)) | exact (decide_eq_false (by omega)).symm | exact (decide_eq_true (by omega)).symm), hs.ent (.nil _)⟩))
        · refine .ps ?_; refine .ps ?_; refine .pf ?_; refine .as_ ?_; refine .as_ ?_
          focus ((refine .go ?_; repeat constructor); exact PX.ret rfl Tryz.results132 (.cons (.tmp rfl) (.cons (.tmp rfl) .nil)) (fun w hs => ⟨(), congrArg (fun x => Ending.returned (.tuple #[.bool x, .bool true])) (by first | exact decide_eq_decide.2 (by omega) | exact Eq.trans decide_not.symm (decide_eq_decide.2 (by omega)) | exact (decide_eq_false (by omega)).symm | exact (decide_eq_true (by omega)).symm), hs.ent (.nil _)⟩))
      · refine .ps ?_; refine .ps ?_; refine .pf ?_; refine .mv ?_; refine .ps ?_; refine .ps ?_; refine .pf ?_; refine .as_ ?_; refine .as_ ?_
        focus ((refine .go ?_; repeat constructor); exact PX.ret rfl Tryz.results132 (.cons (.tmp rfl) (.cons (.tmp rfl) .nil)) (fun w hs => ⟨(), congrArg (fun x => Ending.returned (.tuple #[.bool x, .bool true])) (by first | exact decide_eq_decide.2 (by omega) | exact Eq.trans decide_not.symm (decide_eq_decide.2 (by omega)) | exact (decide_eq_false (by omega)).symm | exact (decide_eq_true (by omega)).symm), hs.ent (.nil _)⟩))
    · refine .ps ?_; refine .ps ?_; refine .pf ?_; refine .mv ?_; refine .ps ?_; refine .ps ?_; refine .pf ?_; refine .mv ?_; refine .ps ?_; refine .ps ?_; refine .pf ?_; refine .as_ ?_; refine .as_ ?_
      focus ((refine .go ?_; repeat constructor); exact PX.ret rfl Tryz.results132 (.cons (.tmp rfl) (.cons (.tmp rfl) .nil)) (fun w hs => ⟨(), congrArg (fun x => Ending.returned (.tuple #[.bool x, .bool true])) (by first | exact decide_eq_decide.2 (by omega) | exact Eq.trans decide_not.symm (decide_eq_decide.2 (by omega)) | exact (decide_eq_false (by omega)).symm | exact (decide_eq_true (by omega)).symm), hs.ent (.nil _)⟩))
  refine .go ?_; (repeat constructor); refine .eS ?_; refine .as_ ?_; refine .go ?_; repeat constructor
  refine ES.condD rfl (fun he10 => ?_) (fun hn10 => ?_)
  · subst he10
    refine .go ?_; (repeat constructor); refine .mv ?_; refine .ls ?_; refine .mv ?_
    first | refine EL.splitD (d := 108) rfl (fun hp108 => ?_) (fun hp108 => ?_) | refine EL.splitN (d := 108) rfl (fun hp108 => ?_) (fun hp108 => ?_) | refine EL.splitB (d := 108) rfl (fun hp108 => ?_) (fun hp108 => ?_)
    · refine .ps ?_; refine .ps ?_; refine .pt ?_; refine .as_ ?_; refine .as_ ?_
      focus ((refine .go ?_; repeat constructor); exact PX.ret rfl Tryz.results132 (.cons (.tmp rfl) (.cons (.tmp rfl) .nil)) (fun w hs => ⟨(), congrArg (fun x => Ending.returned (.tuple #[.bool x, .bool true])) (by first | exact decide_eq_decide.2 (by omega) | exact Eq.trans decide_not.symm (decide_eq_decide.2 (by omega)) | exact (decide_eq_false (by omega)).symm | exact (decide_eq_true (by omega)).symm), hs.ent (.nil _)⟩))
    · refine .mv ?_; refine .ei ?_; refine .pf ?_; refine .as_ ?_; refine .as_ ?_
      focus ((refine .go ?_; repeat constructor); exact PX.ret rfl Tryz.results132 (.cons (.tmp rfl) (.cons (.tmp rfl) .nil)) (fun w hs => ⟨(), congrArg (fun x => Ending.returned (.tuple #[.bool x, .bool true])) (by first | exact decide_eq_decide.2 (by omega) | exact Eq.trans decide_not.symm (decide_eq_decide.2 (by omega)) | exact (decide_eq_false (by omega)).symm | exact (decide_eq_true (by omega)).symm), hs.ent (.nil _)⟩))
  refine .go ?_; (repeat constructor); refine .eS ?_; refine .as_ ?_; refine .go ?_; repeat constructor
  refine ES.condD rfl (fun he11 => ?_) (fun hn11 => ?_)
  · subst he11
    refine .go ?_; (repeat constructor); refine .mv ?_; refine .mv ?_
    first | refine EL.splitD (d := 115) rfl (fun hp115 => ?_) (fun hp115 => ?_) | refine EL.splitN (d := 115) rfl (fun hp115 => ?_) (fun hp115 => ?_) | refine EL.splitB (d := 115) rfl (fun hp115 => ?_) (fun hp115 => ?_)
    · refine .ps ?_; refine .ps ?_; refine .ps ?_; refine .ps ?_; refine .ps ?_; refine .ps ?_; refine .pt ?_; refine .mv ?_; refine .ps ?_; refine .ps ?_; refine .ps ?_; refine .ps ?_; refine .ps ?_; refine .ps ?_; refine .pt ?_; refine .as_ ?_; refine .as_ ?_
      focus ((refine .go ?_; repeat constructor); exact PX.ret rfl Tryz.results132 (.cons (.tmp rfl) (.cons (.tmp rfl) .nil)) (fun w hs => ⟨(), congrArg (fun x => Ending.returned (.tuple #[.bool x, .bool true])) (by first | exact decide_eq_decide.2 (by omega) | exact Eq.trans decide_not.symm (decide_eq_decide.2 (by omega)) | exact (decide_eq_false (by omega)).symm | exact (decide_eq_true (by omega)).symm), hs.ent (.nil _)⟩))
    · refine .mv ?_; refine .gq ?_; refine .mv ?_
      first | refine EL.splitD (d := 118) rfl (fun hp118 => ?_) (fun hp118 => ?_) | refine EL.splitN (d := 118) rfl (fun hp118 => ?_) (fun hp118 => ?_) | refine EL.splitB (d := 118) rfl (fun hp118 => ?_) (fun hp118 => ?_)
      · refine .mv ?_; refine .lq ?_; refine .pt ?_; refine .pf ?_; refine .mv ?_
        first | refine EL.splitD (d := 123) rfl (fun hp123 => ?_) (fun hp123 => ?_) | refine EL.splitN (d := 123) rfl (fun hp123 => ?_) (fun hp123 => ?_) | refine EL.splitB (d := 123) rfl (fun hp123 => ?_) (fun hp123 => ?_)
        · refine .ps ?_; refine .ps ?_; refine .ps ?_; refine .ps ?_; refine .ps ?_; refine .ps ?_; refine .pt ?_; refine .as_ ?_; refine .as_ ?_
          focus ((refine .go ?_; repeat constructor); exact PX.ret rfl Tryz.results132 (.cons (.tmp rfl) (.cons (.tmp rfl) .nil)) (fun w hs => ⟨(), congrArg (fun x => Ending.returned (.tuple #[.bool x, .bool true])) (by first | exact decide_eq_decide.2 (by omega) | exact Eq.trans decide_not.symm (decide_eq_decide.2 (by omega)) | exact (decide_eq_false (by omega)).symm | exact (decide_eq_true (by omega)).symm), hs.ent (.nil _)⟩))
        · refine .mv ?_; refine .gq ?_; refine .mv ?_
          first | refine EL.splitD (d := 126) rfl (fun hp126 => ?_) (fun hp126 => ?_) | refine EL.splitN (d := 126) rfl (fun hp126 => ?_) (fun hp126 => ?_) | refine EL.splitB (d := 126) rfl (fun hp126 => ?_) (fun hp126 => ?_)
          · refine .mv ?_; refine .lq ?_; refine .pt ?_; refine .pf ?_; refine .as_ ?_; refine .as_ ?_
            focus ((refine .go ?_; repeat constructor); exact PX.ret rfl Tryz.results132 (.cons (.tmp rfl) (.cons (.tmp rfl) .nil)) (fun w hs => ⟨(), congrArg (fun x => Ending.returned (.tuple #[.bool x, .bool true])) (by first | exact decide_eq_decide.2 (by omega) | exact Eq.trans decide_not.symm (decide_eq_decide.2 (by omega)) | exact (decide_eq_false (by omega)).symm | exact (decide_eq_true (by omega)).symm), hs.ent (.nil _)⟩))
          · refine .ps ?_; refine .ps ?_; refine .pf ?_; refine .pf ?_; refine .as_ ?_; refine .as_ ?_
            focus ((refine .go ?_; repeat constructor); exact PX.ret rfl Tryz.results132 (.cons (.tmp rfl) (.cons (.tmp rfl) .nil)) (fun w hs => ⟨(), congrArg (fun x => Ending.returned (.tuple #[.bool x, .bool true])) (by first | exact decide_eq_decide.2 (by omega) | exact Eq.trans decide_not.symm (decide_eq_decide.2 (by omega)) | exact (decide_eq_false (by omega)).symm | exact (decide_eq_true (by omega)).symm), hs.ent (.nil _)⟩))
      · refine .ps ?_; refine .ps ?_; refine .pf ?_; refine .pf ?_; refine .mv ?_; refine .mv ?_; refine .gq ?_; refine .mv ?_
        first | refine EL.splitD (d := 126) rfl (fun hp126 => ?_) (fun hp126 => ?_) | refine EL.splitN (d := 126) rfl (fun hp126 => ?_) (fun hp126 => ?_) | refine EL.splitB (d := 126) rfl (fun hp126 => ?_) (fun hp126 => ?_)
        · refine .mv ?_; refine .lq ?_; refine .pt ?_; refine .pf ?_; refine .as_ ?_; refine .as_ ?_
          focus ((refine .go ?_; repeat constructor); exact PX.ret rfl Tryz.results132 (.cons (.tmp rfl) (.cons (.tmp rfl) .nil)) (fun w hs => ⟨(), congrArg (fun x => Ending.returned (.tuple #[.bool x, .bool true])) (by first | exact decide_eq_decide.2 (by omega) | exact Eq.trans decide_not.symm (decide_eq_decide.2 (by omega)) | exact (decide_eq_false (by omega)).symm | exact (decide_eq_true (by omega)).symm), hs.ent (.nil _)⟩))
        · refine .ps ?_; refine .ps ?_; refine .pf ?_; refine .pf ?_; refine .as_ ?_; refine .as_ ?_
          focus ((refine .go ?_; repeat constructor); exact PX.ret rfl Tryz.results132 (.cons (.tmp rfl) (.cons (.tmp rfl) .nil)) (fun w hs => ⟨(), congrArg (fun x => Ending.returned (.tuple #[.bool x, .bool true])) (by first | exact decide_eq_decide.2 (by omega) | exact Eq.trans decide_not.symm (decide_eq_decide.2 (by omega)) | exact (decide_eq_false (by omega)).symm | exact (decide_eq_true (by omega)).symm), hs.ent (.nil _)⟩))
  have hne : isB l b.toNat = false := by simp only [isB, *, if_false]
  have hno : okM l = false := decide_eq_false (by simp only [names12, List.mem_cons, List.not_mem_nil, or_false, *, not_false_eq_true])
  refine .go ?_; (repeat constructor); refine .as_ ?_; refine .as_ ?_; refine .go ?_; repeat constructor
  exact PX.ret rfl Tryz.results132 (.cons (.tmp rfl) (.cons (.tmp rfl) .nil)) (fun w hs => ⟨(), by rw [hne, hno]; rfl, hs.ent (.nil _)⟩)
theorem is_ck (l : List UInt8) (b : UInt8) (k : Nat) (hk : b.toNat = k) (w : World) : Pure Tryz.prog 132 #[Sv l, Uv b] (fun _ : Unit => .tuple #[.bool (isB l k), .bool (okM l)]) (fun _ => []) w := by subst hk; exact is_c l b w
theorem add_ck (g : Nat) (s : BS) (b : UInt8) (k : Nat) (hk : b.toNat = k) : Mut Tryz.prog 119 #[Pv g 0, Uv b] [SB g s] (fun _ : Unit => .tuple #[]) (fun _ => [SB g (addS s k)]) := by subst hk; exact add_c g s b
theorem class_c (l : List UInt8) (w : World) : Pure Tryz.prog 127 #[Sv l] (fun _ : Unit => .tuple #[Bs (classM l).1, Iv (classM l).2]) (fun _ => []) w := by
  refine calls_of_ES TB Tryz.func127 rfl _ Tryz.ntmps127 rfl (Sat.start w) ?_; refine .go ?_; (repeat constructor); (refine .al ?_; intro g2); refine .as_ ?_; refine .go ?_; (repeat constructor); (refine .al ?_; intro g4); refine .go ?_; (repeat constructor); refine .mv ?_; refine .go ?_; repeat constructor
  refine ES.blkEq (g := g4) (o' := .cells (fillS (isB l) 0).cells 43) (by repeat constructor) (by rw [fillS]; rfl) ?_
  refine ES.loop (σ := Nat) (fun i => i ≤ 256 ∧ (0 < i → l ∈ names12)) (fun i => [(0, Sv l), (2, Pv g2 0), (4, Pv g4 0), (8, Iv i)]) (fun i => [SB g4 (fillS (isB l) i), SB g2 zeroS]) (fun i => 256 - i) 0 ⟨by omega, fun h => absurd h (by omega)⟩ ⟨rfl, rfl, rfl, rfl, trivial⟩ (.i (by repeat constructor)) ?_
  rintro i ⟨hi, hpos⟩
  refine .go ?_; (repeat constructor); refine .ls ?_; refine .go ?_; repeat constructor
  refine ES.condD rfl (fun hlt => ?_) (fun hge => ?_)
  · have hlt' : i < 256 := by omega
    have hk8 : (UInt8.ofNat i).toNat = i := by simp; omega
    have ha := add_ck g4 (fillS (isB l) i) (UInt8.ofNat i) i hk8
    refine .go ?_; (repeat constructor); refine .mv ?_; refine .as_ ?_; refine .go ?_; (repeat constructor); refine .mv ?_; refine .mv ?_
    refine EL.convI ((UInt8.ofNat i).toNat : Int) rfl rfl rfl rfl rfl rfl (by rw [hk8]; exact wrap_u8 _ hlt') ?_
    refine EL.callP rfl rfl rfl ent132 rfl (is_ck l (UInt8.ofNat i) i hk8) ?_; refine .mv ?_; refine .ex ?_; refine .ex ?_; refine .as_ ?_; refine .as_ ?_; refine .go ?_; (repeat constructor); refine .mv ?_; refine .nt ?_; refine .go ?_; repeat constructor
    refine ES.condN (p := l ∈ names12) rfl (fun hno => ?_) (fun hok => ?_)
    · have hok0 : okM l = false := decide_eq_false hno
      have hm : classM l = (zeroS, 8) := by simp only [classM, hok0, Bool.false_eq_true, if_false]
      refine .go ?_; (repeat constructor); refine EL.buildZA rfl rfl rfl rfl rfl ?_; refine .sa ?_; refine .as_ ?_; refine .go ?_; repeat constructor
      exact PX.ret rfl Tryz.results127 (.cons (.blkA rfl rfl rfl (by repeat constructor) rfl) (.cons (.tmp rfl) .nil)) (fun w hs => ⟨(), by rw [hm]; rfl, hs.ent (.nil _)⟩)
    · have hfs : ∀ hb : isB l i = true, addS (fillS (isB l) i) i = fillS (isB l) (i + 1) := fun hb => by rw [fillS, if_pos hb]
      have hfn : ∀ hb : isB l i = false, fillS (isB l) i = fillS (isB l) (i + 1) := fun hb => by rw [fillS, if_neg (by rw [hb]; simp)]
      refine .go ?_; (repeat constructor); refine .mv ?_; refine .go ?_; repeat constructor
      refine ES.cutC (X := Unit) (fun _ => [(0, Sv l), (2, Pv g2 0), (4, Pv g4 0), (8, Iv i)]) (fun _ => [SB g4 (fillS (isB l) (i + 1)), SB g2 zeroS]) ?_ (fun _ => ?_)
      · refine ES.cond rfl (fun hb => ?_) (fun hb => ?_)
        · rw [hfs hb] at ha
          refine .go ?_; (repeat constructor); refine .mv ?_
          refine EL.convI ((UInt8.ofNat i).toNat : Int) rfl rfl rfl rfl rfl rfl (by rw [hk8]; exact wrap_u8 _ hlt') ?_
          refine EL.callM1 rfl rfl rfl ent119 rfl ha (by repeat constructor) ?_; refine .go ?_; repeat constructor
          exact .cy ()
        · rw [hfn hb]
          refine .go ?_; repeat constructor
          exact .cy ()
      refine .go ?_; (repeat constructor); refine .a1 ?_; refine .mv ?_; refine .go ?_; repeat constructor
      exact .ly (i + 1) ⟨by omega, fun _ => hok⟩ (by omega)
  · obtain rfl : i = 256 := by omega
    have hok1 : okM l = true := decide_eq_true (hpos (by omega))
    have hm : classM l = (fillS (isB l) 256, 0) := by simp only [classM, hok1, if_true]
    refine .go ?_; (repeat constructor); refine .lg ?_; refine .sa ?_; refine .as_ ?_; refine .go ?_; repeat constructor
    exact PX.ret rfl Tryz.results127 (.cons (.blkA rfl rfl rfl (by repeat constructor) rfl) (.cons (.tmp rfl) .nil)) (fun w hs => ⟨(), by rw [hm]; rfl, hs.ent (.nil _)⟩)
end Go.Proofs.YthcbjbkheodejaaGreat
namespace Go.Proofs.YthcbjbkheodejaaGreat.Sl
open Go Go.RowKit
def HA.pack (Hs : List HA) : HA := ⟨fps Hs, fun w => ∀ A ∈ Hs, A.holds w, fun w w' h hw A hA => A.loc w w' (fun g hg => h g (List.mem_flatMap.2 ⟨A, hA, hg⟩)) (hw A hA)⟩
theorem fps_pack (Hs R : List HA) : fps (HA.pack Hs :: R) = fps (Hs ++ R) := by rw [fps_cons, fps_append]; rfl
theorem Sat.pack {w0 w : World} {B : Nat} {Hs R : List HA} (h : Sat w0 B (Hs ++ R) w) : Sat w0 B (HA.pack Hs :: R) w :=
  ⟨h.below, h.base, by rw [fps_pack]; exact h.nodup, by rw [fps_pack]; exact h.lo, fun A hA => by
    rcases List.mem_cons.1 hA with rfl | hA
    · exact fun A hA => h.all A (by simp [hA])
    · exact h.all A (by simp [hA])⟩
theorem Sat.unpack {w0 w : World} {B : Nat} {Hs R : List HA} (h : Sat w0 B (HA.pack Hs :: R) w) : Sat w0 B (Hs ++ R) w :=
  ⟨h.below, h.base, by rw [← fps_pack]; exact h.nodup, by rw [← fps_pack]; exact h.lo, fun A hA => by
    rcases List.mem_append.1 hA with hA | hA
    · exact h.head A hA
    · exact h.all A (by simp [hA])⟩
theorem Sat.putObj {w0 w : World} {B l : Nat} {o : Obj} (o' : Obj) {H : List HA} (h : Sat w0 B (HA.blk l o :: H) w) : Sat w0 B (HA.blk l o' :: H) (w.putObj l o') := by
  have hlt : l < w.heap.size := (h.lo l (by rw [fps_cons]; simp [HA.blk])).2
  refine h.step rfl rfl rfl (by simp) (fun k hk hn => World.putObj_heap_other (by simpa [HA.blk] using hn)) (World.putObj_heap_same hlt) (fun g hg => ?_) (by simp [HA.blk])
  simp only [HA.blk, List.mem_singleton] at hg
  subst hg
  exact ⟨by simpa using hlt, .inl (by simp [HA.blk])⟩
def mark (D : Nat) : Deferred := { target := .collected D, args := #[] }
def markB (D : Nat) : HA := HA.blk D (.deferred (some []))
def Rounds (P : Program) (l : Nat) (w0 : World) (B : Nat) (xs : List (List Value)) (I Ix : Nat → HA → Prop) : Prop :=
  ∀ (i : Nat) (A : HA) (R : List HA) (x : List Value) (W : World), I i A → xs[i]? = some x → Sat w0 B (A :: R) W →
    YieldAt (F0 none) 0 P l x.toArray W fun e W' => (e = .returned (.bool true) ∧ ∃ A', I (i + 1) A' ∧ Sat w0 B (A' :: R) W') ∨ (e = .returned (.bool false) ∧ ∃ A', Ix (i + 1) A' ∧ Sat w0 B (A' :: R) W')
def Iter (P : Program) (gf : Nat) (lb : Array Value) (xs : List (List Value)) (Hc : List HA) (W0 : World) (B0 : Nat) : Prop :=
  ∀ (l : Nat) (I Ix : Nat → HA → Prop), Rounds P l W0 B0 xs I Ix → ∀ (A : HA) (R : List HA) (W : World), I 0 A → Sat W0 B0 (Hc ++ A :: R) W →
    Calls P gf (#[.func (.yield l) #[] #[]] ++ lb) W fun e W' => (∃ v, e = .returned v) ∧ ((∃ A', I xs.length A' ∧ Sat W0 B0 (Hc ++ A' :: R) W') ∨ (∃ i A', Ix i A' ∧ Sat W0 B0 (Hc ++ A' :: R) W'))
section yields
variable {C : Cx} {all : Array Oper} {ops : List Oper} {Q : Qt} {E : Env} {H H' R : List HA} {d ty : Nat} {pos : String} {af : Array Edge} {gd : Option (Nat × Bool)}
theorem EL.yield {fo : Operand} {ar : Array Operand} {tys : Array TypeId} {l i : Nat} {vs : List Value} {xs : List (List Value)} {I Ix : Nat → HA → Prop} {A : HA} (hg : guardOk all E gd = some true) (hf : E.ev fo = some (.func (.yield l) #[] #[])) (ha : E.evl ar.toList = some vs) (hd : Nat.blt d C.n = true)
    (hY : Rounds C.P l C.w0 C.B xs I Ix) (hi : I i A) (hx : xs[i]? = some vs) (p : Pick H A R)
    (kt : ∀ A', I (i + 1) A' → EL C all ops Q ((d, .bool true) :: E) (A' :: R)) (kf : ∀ A', Ix (i + 1) A' → EL C all ops Q ((d, .bool false) :: E) (A' :: R)) :
    EL C all (⟨some d, .call { callee := .value fo, args := ar, argTypes := tys }, ty, pos, af, gd⟩ :: ops) Q E H := by
  intro a w hat
  simp only [wpListIn, guardOk_wanted (o := ⟨some d, .call { callee := .value fo, args := ar, argTypes := tys }, ty, pos, af, gd⟩) hg hat.1, if_true]
  refine ⟨fun _ _ => trivial, ?_⟩
  rw [sem_plain (by simp)]
  have hm : ar.map a.eval = vs.toArray := by
    have := hat.1.evl ha
    apply Array.ext'
    simpa using this
  obtain ⟨fn, tmps, asg, body, hy, hR⟩ := hY i A R vs w hi hx (hat.2.perm p.perm)
  have hrun : (execOp a.eval ⟨some d, .call { callee := .value fo, args := ar, argTypes := tys }, ty, pos, af, gd⟩).run C.P w = .ok (.round l fn tmps asg body) w := by
    simp only [execOp, resolve, hat.1.ev hf, hm, Deferred.ofValue, Sem.run_bind, Sem.run_pure, Result.andThen, invoke]
    rw [show (#[] ++ vs.toArray : Array Value) = vs.toArray by simp]
    exact hy
  rw [hrun]
  refine ⟨fun h => by simp [F0] at h, ?_⟩
  refine RoundIn.mono (F := F0 C.r) hR ?_
  rintro e w' (⟨rfl, A', hi', hs⟩ | ⟨rfl, A', hi', hs⟩)
  · exact kt A' hi' _ _ ⟨hat.1.put (by simpa using hd) _, hs⟩
  · exact kf A' hi' _ _ ⟨hat.1.put (by simpa using hd) _, hs⟩
end yields
section ranges
variable {C : Cx} {cs : List Code} {Q : Qt} {E E' : Env} {H H' H1 R : List HA}
def RoundQ {σ τ : Type} (C : Cx) (R1 : List HA) (I : σ → Prop) (Hi : σ → List HA) (Ix : Code → τ → Prop) (Hx : τ → List HA) : Qt := fun e a w => match e with
  | .normal => ∃ s, I s ∧ Sat C.w0 C.B (Hi s ++ R1) w
  | .ret => ∃ t, Ix .ret t ∧ Sat C.w0 C.B (Hx t ++ R1) w
  | .exit id => ∃ t, Ix (.exit id) t ∧ Sat C.w0 C.B (Hx t ++ R1) w
  | _ => False
theorem PX.round {σ τ : Type} {R1 : List HA} {I : σ → Prop} {Hi : σ → List HA} {Ix : Code → τ → Prop} {Hx : τ → List HA} (s : σ) (hI : I s) (hh : Ent H (Hi s ++ R1)) : PX C (RoundQ C R1 I Hi Ix Hx) .normal E H := fun a w h => ⟨s, hI, h.2.ent hh⟩
theorem PX.roundR {σ τ : Type} {R1 : List HA} {I : σ → Prop} {Hi : σ → List HA} {Ix : Code → τ → Prop} {Hx : τ → List HA} (t : τ) (hI : Ix .ret t) (hh : Ent H (Hx t ++ R1)) : PX C (RoundQ C R1 I Hi Ix Hx) .ret E H := fun a w h => ⟨t, hI, h.2.ent hh⟩
def bindL : List Nat → List Value → Env → Env
  | p :: ps, v :: vs, E => bindL ps vs ((p, v) :: E)
  | _, _, E => E
theorem fits_bind {n : Nat} {D : List Deferred} : ∀ (ps : List Nat) (vs : List Value) (E : Env) (t : Array Value), (ps.all fun p => Nat.blt p n) = true → Fits n D E { tmps := t, defers := D } → Fits n D (bindL ps vs E) { tmps := (ps.zip vs).foldl (fun t (p : Nat × Value) => t.setIfInBounds p.1 p.2) t, defers := D }
  | [], _, E, t, _, h => by simpa [bindL] using h
  | p :: ps, [], E, t, _, h => by simpa [bindL] using h
  | p :: ps, v :: vs, E, t, hp, h => by
    simp only [List.all_cons, Bool.and_eq_true] at hp
    exact fits_bind ps vs _ _ hp.2 (h.put (by simpa using hp.1) v)
theorem wps_D (C : Cx) (D : List Deferred) (Q : Qt) : ∀ cs, wps { C with D := D } cs Q = wps C cs Q
  | [] => rfl
  | c :: cs => by simp only [wps, wps_D C D Q cs]
def loopR (fn : FuncId) (tmps : Array Value) (ps : Array Tmp) (asg body : Code) (D : Nat) (st : LoopState) (pe : Option Code) : Loop := { state := st, pending := pe, fn, tmps, params := ps, assign := asg, body, defers := D }
def AssignQ (C : Cx) (R1 : List HA) (body : Code) (RQ : List HA → Qt) : Qt := fun e a w => e = .normal ∧ ∃ E1 H1, At C E1 (H1 ++ R1) a w ∧ ∀ R2, ES C [body] (RQ R2) E1 (H1 ++ R2)
theorem PX.assigned {R1 : List HA} {body : Code} {RQ : List HA → Qt} (E1 : Env) (H1 : List HA) (he : Has E E1) (hh : Ent H (H1 ++ R1)) (k : ∀ R2, ES C [body] (RQ R2) E1 (H1 ++ R2)) : PX C (AssignQ C R1 body RQ) .normal E H := fun a w h => ⟨rfl, E1, H1, h.sub he hh, k⟩
def loopA (L : Nat) (lp : Loop) (D : Nat) (T : List HA) : HA := HA.pack (HA.blk L (.loop lp) :: markB D :: T)
theorem perm_mid2 {α : Type} (a b : α) (T R : List α) : (T ++ a :: b :: R).Perm (a :: b :: (T ++ R)) := List.perm_middle.trans (List.perm_middle.cons _)
theorem round_end {P : Program} {w0 : World} {B L D : Nat} {lp : Loop} {T R1 : List HA} {W3 : World} (jump : Option Code) (h3 : Sat w0 B (T ++ (HA.blk L (.loop lp) :: markB D :: R1)) W3) :
    (Instr.endRound L jump).run P W3 = .ok (.bool jump.isNone) (W3.putObj L (.loop { lp with state := if jump.isNone then .ready else .done, pending := jump })) ∧
    Sat w0 B (loopA L { lp with state := if jump.isNone then .ready else .done, pending := jump } D T :: R1) (W3.putObj L (.loop { lp with state := if jump.isNone then .ready else .done, pending := jump })) := by
  have h4 : Sat w0 B (HA.blk L (.loop lp) :: markB D :: (T ++ R1)) W3 := h3.perm (perm_mid2 _ _ _ _)
  exact ⟨run_endRound (P := P) jump h4.head, (h4.putObj _).pack⟩
theorem rounds_of {σ τ : Type} {P : Program} {T : TyTab P} {w0 : World} {B n L D : Nat} {fn : FuncId} {tmps : Array Value} {ps : Array Tmp} {asg body : Code} {xs : List (List Value)} (I : Nat → σ → Prop) (Hi : σ → List HA) (Ix : Code → Nat → τ → Prop) (Hx : τ → List HA)
    (hps : ∀ x ∈ xs, x.length = ps.size) (hpn : (ps.toList.all fun p => Nat.blt p n) = true) (hfit : Fits n [] E { tmps, defers := [] })
    (hround : ∀ l i s x R1, I i s → xs[i]? = some x → ES ⟨P, T, some l, n, [], w0, B⟩ [asg] (AssignQ ⟨P, T, some l, n, [], w0, B⟩ R1 body fun R2 => RoundQ ⟨P, T, some l, n, [], w0, B⟩ R2 (I (i + 1)) Hi (fun c => Ix c (i + 1)) Hx) (bindL ps.toList x E) (Hi s ++ R1)) :
    Rounds P L w0 B xs (fun i A => ∃ s, I i s ∧ A = loopA L (loopR fn tmps ps asg body D .ready none) D (Hi s)) (fun i A => ∃ c t, Ix c i t ∧ A = loopA L (loopR fn tmps ps asg body D .done (some c)) D (Hx t)) := by
  rintro i A R1 x W ⟨s, hI, rfl⟩ hx hsat
  have hs := hsat.unpack
  have hl : W.heap[L]? = some (.loop (loopR fn tmps ps asg body D .ready none)) := hs.head
  have hy := run_yield (P := P) (args := x.toArray) hl (by simpa [loopR] using hps x (List.mem_of_getElem? hx))
  refine ⟨_, _, _, _, hy, roundIn_of_wpIn trivial ?_⟩
  have hs0 : Sat w0 B (Hi s ++ (HA.blk L (.loop (loopR fn tmps ps asg body D .ready none)) :: markB D :: R1)) W := hs.perm (perm_mid2 _ _ _ _).symm
  have hf2 : Fits n [] (bindL ps.toList x E) { tmps := (ps.zip x.toArray).foldl (fun t (p : Nat × Value) => t.setIfInBounds p.1 p.2) tmps, defers := [] } := by
    have := fits_bind (D := []) ps.toList x E tmps hpn hfit
    rw [← Array.foldl_toList, Array.toList_zip]
    exact this
  refine wpIn_mono (hround L i s x _ hI hx _ _ ⟨hf2, hs0⟩) ?_
  clear hf2 hs0 hy hl hs hsat hround
  rintro e a1 W1 hq
  cases e with
  | normal =>
    obtain ⟨_, E1, H1, hat, hb⟩ := (hq : AssignQ _ _ _ _ .normal a1 W1)
    have hs1 : Sat w0 B (HA.blk L (.loop (loopR fn tmps ps asg body D .ready none)) :: markB D :: (H1 ++ R1)) W1 := hat.2.perm (perm_mid2 _ _ _ _)
    refine ⟨_, run_beginRound hs1.head rfl, ?_⟩
    have hs' : Sat w0 B (H1 ++ (HA.blk L (.loop { loopR fn tmps ps asg body D .ready none with state := .busy }) :: markB D :: R1)) (W1.putObj L (.loop { loopR fn tmps ps asg body D .ready none with state := .busy })) :=
      (hs1.putObj (.loop { loopR fn tmps ps asg body D .ready none with state := .busy })).perm (perm_mid2 _ _ _ _).symm
    refine wpIn_mono (hb _ _ _ ⟨hat.1, hs'⟩) ?_
    clear hb hs' hs1 hat
    rintro e a3 W3 hp
    cases e with
    | normal =>
      obtain ⟨s', hI', hs3⟩ := hp
      obtain ⟨h1, h2⟩ := round_end (P := P) none hs3
      exact ⟨_, _, h1, .inl ⟨rfl, _, ⟨s', hI', rfl⟩, h2⟩⟩
    | ret =>
      obtain ⟨t, hI', hs3⟩ := hp
      obtain ⟨h1, h2⟩ := round_end (P := P) (some .ret) hs3
      exact ⟨_, _, h1, .inr ⟨rfl, _, ⟨_, t, hI', rfl⟩, h2⟩⟩
    | exit id =>
      obtain ⟨t, hI', hs3⟩ := hp
      obtain ⟨h1, h2⟩ := round_end (P := P) (some (.exit id)) hs3
      exact ⟨_, _, h1, .inr ⟨rfl, _, ⟨_, t, hI', rfl⟩, h2⟩⟩
    | goto t => exact hp.elim
    | panic ch => exact hp.elim
    | outgrown => exact hp.elim
  | _ => cases (hq.1 : _ = Exit.normal)
theorem range_back {P : Program} {w0 : World} {B L D : Nat} {lp : Loop} {T Hc R : List HA} {W2 : World} (h : Sat w0 B (Hc ++ loopA L lp D T :: R) W2) (hb : lp.state ≠ .busy) :
    (Instr.endLoop L).run P W2 = .ok lp.pending (W2.putObj L (.loop { lp with state := .exhausted })) ∧ Sat w0 B (markB D :: (T ++ (Hc ++ R))) (W2.putObj L (.loop { lp with state := .exhausted })) := by
  have h1 : Sat w0 B (loopA L lp D T :: (Hc ++ R)) W2 := h.perm List.perm_middle
  have h2 := h1.unpack
  exact ⟨run_endLoop (P := P) h2.head hb, (h2.putObj _).tail⟩
theorem range_start {w0 w : World} {B : Nat} {H Hc R T : List HA} (h : Sat w0 B H w) (p : H.Perm (Hc ++ (T ++ R))) (o : Loop) :
    Sat w0 B (Hc ++ loopA (w.heap.size + 1) o w.heap.size T :: R) ((w.alloc (.deferred (some []))).alloc (.loop o)) := by
  have h1 := (h.alloc (.deferred (some []))).alloc (.loop o)
  rw [World.size_alloc] at h1
  have h2 : Sat w0 B ((HA.blk (w.heap.size + 1) (.loop o) :: markB w.heap.size :: T) ++ (R ++ Hc)) ((w.alloc (.deferred (some []))).alloc (.loop o)) := by
    refine h1.perm (((p.trans ?_).cons _).cons _)
    show (Hc ++ (T ++ R)).Perm (T ++ (R ++ Hc))
    rw [← List.append_assoc T]
    exact List.perm_append_comm
  exact h2.pack.perm (List.perm_append_comm (l₁ := _ :: R) (l₂ := Hc))
theorem PX.then_d {D' : List Deferred} (k : ES C cs Q E H) : PX C (Exit.then (wps { C with D := D' } cs Q) Q) .normal E H := by
  intro a w h
  show wps { C with D := D' } cs Q a w
  rw [wps_D]
  exact k a w h
theorem ES.rangeFunc {σ τ : Type} {g : Operand} {ps : Array Tmp} {asg body : Code} {gf : Nat} {lb : Array Value} {xs : List (List Value)} {Hc : List HA} (I : Nat → σ → Prop) (Hi : σ → List HA) (Ix : Code → Nat → τ → Prop) (Hx : τ → List HA) (s0 : σ) (h0 : I 0 s0)
    (hr : C.r = none) (hg : E.ev g = some (.func (.func gf) #[] lb)) (en : Enters C.P gf) (hit : Iter C.P gf lb xs Hc C.w0 C.B) (tc : Takes H Hc H1) (t0 : Takes H1 (Hi s0) R)
    (hps : ∀ x ∈ xs, x.length = ps.size) (hpn : (ps.toList.all fun p => Nat.blt p C.n) = true)
    (hround : ∀ l i s x R1, I i s → xs[i]? = some x → ES ⟨C.P, C.T, some l, C.n, [], C.w0, C.B⟩ [asg] (AssignQ ⟨C.P, C.T, some l, C.n, [], C.w0, C.B⟩ R1 body fun R2 => RoundQ ⟨C.P, C.T, some l, C.n, [], C.w0, C.B⟩ R2 (I (i + 1)) Hi (fun c => Ix c (i + 1)) Hx) (bindL ps.toList x E) (Hi s ++ R1))
    (hdone : ∀ D s, I xs.length s → ES { C with D := mark D :: C.D } cs Q E (markB D :: (Hi s ++ (Hc ++ R))))
    (hstop : ∀ D c i t, Ix c i t → ES { C with D := mark D :: C.D } [c] (Exit.then (wps { C with D := mark D :: C.D } cs Q) Q) E (markB D :: (Hx t ++ (Hc ++ R)))) : ES C (.rangeFunc g ps asg body :: cs) Q E H := by
  intro a w ha
  refine wpIn_rangeFunc ?_
  intro fn hfn
  obtain ⟨P, T, r, n, D0, w0, B⟩ := C
  obtain rfl : r = none := hr
  dsimp only at en hit hpn hround hdone hstop
  have hfit : Fits n (mark w.heap.size :: D0) E { a with defers := [mark w.heap.size] ++ a.defers } := ⟨by rw [ha.1.dfr]; rfl, ha.1.size, ha.1.get⟩
  have hrd := rounds_of (T := T) (L := w.heap.size + 1) (D := w.heap.size) (fn := fn) I Hi Ix Hx hps hpn ⟨rfl, ha.1.size, ha.1.get⟩ hround
  have hs2 := range_start ha.2 (tc.perm.trans (t0.perm.append_left _)) (loopR fn a.tmps ps asg body w.heap.size .ready none)
  have key : CallsIn (F0 none) (0 - 1) P gf (#[.func (.yield (w.heap.size + 1)) #[] #[]] ++ lb) ((w.alloc (.deferred (some []))).alloc (.loop (loopR fn a.tmps ps asg body w.heap.size .ready none))) (rangePost (F0 none) 0 P (w.heap.size + 1) (Exit.then (wps ⟨P, T, none, n, D0, w0, B⟩ cs Q) Q) { a with defers := [mark w.heap.size] ++ a.defers }) := by
    refine callsIn_F0 (r := none) ((hit _ _ _ hrd _ R _ ⟨s0, h0, rfl⟩ hs2).mono ?_)
    clear hrd hs2 hit hround
    rintro e W2 ⟨⟨v, rfl⟩, (⟨A', ⟨s, hI, rfl⟩, hs⟩ | ⟨i, A', ⟨c, t, hI, rfl⟩, hs⟩)⟩
    · obtain ⟨h1, h2⟩ := range_back (P := P) hs (by simp [loopR])
      have hk := hdone _ s hI _ _ ⟨hfit, h2⟩
      have e2 := wps_D ⟨P, T, none, n, D0, w0, B⟩ (mark w.heap.size :: D0) Q cs
      dsimp only at e2
      rw [e2] at hk
      exact ⟨none, _, h1, hk⟩
    · obtain ⟨h1, h2⟩ := range_back (P := P) hs (by simp [loopR])
      have hk := hstop _ c i t hI _ _ ⟨hfit, h2⟩
      have e2 := wps_D ⟨P, T, none, n, D0, w0, B⟩ (mark w.heap.size :: D0) Q cs
      dsimp only at e2
      rw [e2] at hk
      refine ⟨some c, _, h1, wpIn_mono hk ?_⟩
      intro e a w hq
      cases e <;> exact hq
  have e1 : (Instr.enterLoop fn a.tmps ps asg body none).run P w = .ok (w.heap.size + 1, [mark w.heap.size]) ((w.alloc (.deferred (some []))).alloc (.loop (loopR fn a.tmps ps asg body w.heap.size .ready none))) := run_enterLoop_outer _ _ _ _ _
  have e2 : ∀ W, (resolve a.eval (rangeCall g (w.heap.size + 1)) 0).run P W = .ok { target := .fn (.func gf) lb, args := #[.func (.yield (w.heap.size + 1)) #[] #[]] } W := fun W => by
    simp only [resolve, ha.1.ev hg]
    simp [go_sem]
  have e3 : ∀ W, (invoke (.fn (.func gf) lb) #[.func (.yield (w.heap.size + 1)) #[] #[]]).run P W = .ok (.enter gf (#[.func (.yield (w.heap.size + 1)) #[] #[]] ++ lb)) W := fun W => by
    simp only [invoke]
    exact en _ _
  refine ⟨_, _, _, _, _, _, _, _, e1, e2 _, fun _ _ => trivial, e3 _, fun h => ?_, key⟩
  cases h
end ranges
def marksOf (Ds : List Nat) : List Deferred := Ds.map mark
def marksB (Ds : List Nat) : List HA := Ds.map markB
theorem leaves_marks {P : Program} {fn : Func} {tmps : Array Value} {R : Ending → World → Prop} {w0 : World} {B : Nat} {H : List HA} (hR : ∀ w, Sat w0 B H w → ∃ v, (results fn tmps).run P w = .ok v w ∧ R (.returned v) w) : ∀ (Ds : List Nat) (w : World), Sat w0 B (marksB Ds ++ H) w → LeavesInM (F0 none) 0 P fn tmps R (marksOf Ds) .returning w
  | [], w, h => hR w h
  | D :: Ds, w, h => by
    have h1 : Sat w0 B (HA.blk D (.deferred (some [])) :: (marksB Ds ++ H)) w := h
    exact ⟨by simp, .inl ⟨D, _, rfl, run_takeDeferred h1.head, leaves_marks hR Ds _ (h1.putObj _).tail⟩⟩
theorem PX.retM {C : Cx} {E : Env} {H H' : List HA} {fn : Func} {R : Ending → World → Prop} {rs : List ResultVar} {vs : List Value} (Ds : List Nat) (hD : C.D = marksOf Ds) (tk : Takes H (marksB Ds) H') (hr : fn.results = rs.toArray) (h : ResL C E H' rs vs) (hR : ∀ w, Sat C.w0 C.B H' w → R (.returned (outV vs)) w) : PX C (bodyPostM (F0 none) 0 C.P fn R) .ret E H := by
  intro a w ha
  show LeavesInM _ _ _ _ _ _ a.defers _ _
  rw [ha.1.dfr, hD]
  exact leaves_marks (fun w' hs => ⟨_, run_results hr h ⟨ha.1, hs⟩, hR w' hs⟩) Ds w (ha.2.perm tk.perm)
theorem calls_of_ESM {P : Program} (T : TyTab P) {f : FuncId} {fn : Func} {c : Code} {args : Array Value} {w w0 : World} {B : Nat} {H : List HA} {R : Ending → World → Prop} (hf : P.funcs[f]? = some fn) (hb : fn.body = some c) (n : Nat) (hn : fn.ntmps = n) (hsz : Nat.ble args.size n = true)
    (hs : Sat w0 B H w) (h : ES ⟨P, T, none, n, [], w0, B⟩ [c] (bodyPostM (F0 none) 0 P fn R) (envOf args.toList 0) H) : Calls P f args w R := by
  refine calls_F0 (r := none) (n := 0) (callsIn_of_wp_marks hf hb trivial ?_)
  subst hn
  have := h _ w ⟨fits_start args fn.ntmps (Nat.le_of_ble_eq_true hsz), hs⟩
  refine wpIn_mono this ?_
  intro e a w hq
  cases e <;> exact hq
theorem EL.buildSliceC {C : Cx} {all : Array Oper} {ops : List Oper} {Q : Qt} {E : Env} {H : List HA} {d ty t n : Nat} {pos : String} {af : Array Edge} {gd : Option (Nat × Bool)} {ti te : TI} {el : TypeId} {ps : Array (Nat × Operand)} {vs : List (Nat × Value)} (cs : Array Value) (hg : guardOk all E gd = some true) (hx : E.evp ps.toList = some vs) (ht : C.T.f t = some ti) (hu : ti.u = .slice el) (hte : C.T.f el = some te) (hd : Nat.blt d C.n = true)
    (hf : Instr.fill (fun i => some (i * te.size, te.size)) ((Array.range (n * te.size)).map (te.zero.cells[· % te.zero.cells.size]!)) vs = some cs) (hpos : Nat.blt 0 (n * te.size) = true) (hsm : Nat.ble (n * te.size) 16777216 = true) (hcs : cs.size = n * te.size) (hn : Nat.ble n 16777216 = true)
    (k : ∀ g, EL C all ops Q ((d, .slice (some ⟨g, 0, none⟩) n n) :: E) (HA.row (.slice (some ⟨g, 0, none⟩) n n) el te.size n cs.toList :: H)) :
    EL C all (⟨some d, .buildSlice t n ps, ty, pos, af, gd⟩ :: ops) Q E H := by
  intro a w ha
  simp only [wpListIn, guardOk_wanted (o := ⟨some d, .buildSlice t n ps, ty, pos, af, gd⟩) hg ha.1, if_true]
  refine ⟨fun _ _ => trivial, ?_⟩
  rw [sem_plain (by simp)]
  have hT := (C.T.ok t ti ht).u
  rw [hu] at hT
  have hI := (C.T.ok el te hte).runInfo w
  have hp : 0 < n * te.size := by simpa using hpos
  have hsm' : n * te.size ≤ 16777216 := Nat.le_of_ble_eq_true hsm
  have hn' : n ≤ 16777216 := Nat.le_of_ble_eq_true hn
  have hv : (ps.map fun p => (p.1, a.eval p.2)).toList = vs := by simpa using ha.1.evp hx
  have hrun : (execOp a.eval ⟨some d, .buildSlice t n ps, ty, pos, af, gd⟩).run C.P w = .ok (.value (.slice (some ⟨w.heap.size, 0, none⟩) n n)) (w.alloc (.cells cs el)) := by
    have hne : n * te.size ≠ 0 := by omega
    have hgt : ¬ 16777216 < n * te.size := by omega
    have h1 : (Instr.buildSlice t n (ps.map fun p => (p.1, a.eval p.2))).run C.P w = .ok (.slice (some ⟨w.heap.size, 0, none⟩) n n) (w.alloc (.cells cs el)) := by
      unfold Instr.buildSlice
      simp only [Sem.run_bind, run_underlying hT, hI.1, hI.2.1, Result.andThen, Sem.run_pure, Sem.run_ite, hv]
      rw [if_neg (show ¬ n * te.size > 2 ^ 24 by omega), if_neg hne]
      simp only [Sem.run_bind, Sem.run_pure, hI.2.1, Result.andThen, hf]
      simp [newRow, Result.andThen]
    simp [execOp, h1, Result.andThen]
  rw [hrun]
  refine k w.heap.size _ _ ⟨ha.1.put (by simpa using hd) _, ha.2.fresh (World.grownBy_alloc w _ none) (HA.row (.slice (some ⟨w.heap.size, 0, none⟩) n n) el te.size n _) ?_ (by simp [HA.row, Value.ownBlock]) (by simp [HA.row, Value.ownBlock])⟩
  exact ⟨by simpa using hcs, .inr ⟨w.heap.size, n, cs, rfl, Nat.zero_le _, heap_alloc_new w _, Nat.le_refl _, by unfold maxLen; omega, hcs, by rw [List.take_of_length_le (by simp [hcs])]⟩⟩
def enumV : Nat → List Value → List (Nat × Value)
  | _, [] => []
  | k, u :: us => (k, u) :: enumV (k + 1) us
theorem fill_ones : ∀ (us pre rest : List Value), rest.length = us.length → (∀ u ∈ us, u.cells = #[u]) → Instr.fill (fun i => some (i * 1, 1)) (pre ++ rest).toArray (enumV pre.length us) = some (pre ++ us).toArray
  | [], pre, rest, hl, _ => by
    obtain rfl : rest = [] := List.eq_nil_of_length_eq_zero hl
    rfl
  | u :: us, pre, rest, hl, h => by
    obtain ⟨r, rest', rfl⟩ : ∃ r rest', rest = r :: rest' := by
      cases rest with
      | nil => simp at hl
      | cons r rest' => exact ⟨r, rest', rfl⟩
    have hu := h u (by simp)
    have ih := fill_ones us (pre ++ [u]) rest' (by simpa using hl) (fun v hv => h v (by simp [hv]))
    simp only [enumV, Instr.fill, hu]
    rw [if_neg (by simp)]
    have e1 : (#[u].zipIdx.foldl (fun cs (p : Value × Nat) => cs.setIfInBounds (pre.length * 1 + p.2) p.1) (pre ++ r :: rest').toArray) = ((pre ++ [u]) ++ rest').toArray := by
      have : (#[u] : Array Value).zipIdx = #[(u, 0)] := rfl
      rw [this]
      simp
    rw [List.length_append, List.length_singleton] at ih
    rw [e1, ih]
    simp
theorem EL.buildSliceS {C : Cx} {all : Array Oper} {ops : List Oper} {Q : Qt} {E : Env} {H : List HA} {d ty t n : Nat} {pos : String} {af : Array Edge} {gd : Option (Nat × Bool)} {ti te : TI} {el : TypeId} {ps : Array (Nat × Operand)} (us : List Value) (hg : guardOk all E gd = some true) (hx : E.evp ps.toList = some (enumV 0 us)) (ht : C.T.f t = some ti) (hu : ti.u = .slice el) (hte : C.T.f el = some te) (hs1 : te.size = 1) (hd : Nat.blt d C.n = true)
    (hlen : us.length = n) (hpos : Nat.blt 0 n = true) (hn : Nat.ble n 16777216 = true) (h1 : ∀ u ∈ us, u.cells = #[u])
    (k : ∀ g, EL C all ops Q ((d, .slice (some ⟨g, 0, none⟩) n n) :: E) (HA.row (.slice (some ⟨g, 0, none⟩) n n) el 1 n us :: H)) :
    EL C all (⟨some d, .buildSlice t n ps, ty, pos, af, gd⟩ :: ops) Q E H := by
  have hz : ((Array.range (n * te.size)).map (te.zero.cells[· % te.zero.cells.size]!)) = ([] ++ ((Array.range (n * te.size)).map (te.zero.cells[· % te.zero.cells.size]!)).toList).toArray := by rw [List.nil_append, Array.toArray_toList]
  have hf := fill_ones us [] ((Array.range (n * te.size)).map (te.zero.cells[· % te.zero.cells.size]!)).toList (by simp [hs1, hlen]) h1
  refine EL.buildSliceC us.toArray hg hx ht hu hte hd ?_ (by rw [hs1, Nat.mul_one]; exact hpos) (by rw [hs1, Nat.mul_one]; exact hn) (by simp [hs1, hlen]) hn ?_
  · rw [hz]; simp only [hs1]; simpa [hs1] using hf
  · intro g
    have := k g
    rw [hs1]
    simpa using this
theorem EL.makeFunc {C : Cx} {all : Array Oper} {ops : List Oper} {Q : Qt} {E : Env} {H : List HA} {d ty f : Nat} {pos : String} {af : Array Edge} {gd : Option (Nat × Bool)} {ar : Array Operand} {vs : List Value} (hg : guardOk all E gd = some true) (ha : E.evl ar.toList = some vs) (hd : Nat.blt d C.n = true)
    (k : EL C all ops Q ((d, .func (.func f) #[] vs.toArray) :: E) H) : EL C all (⟨some d, .makeFunc (.func f) #[] ar, ty, pos, af, gd⟩ :: ops) Q E H :=
  EL.val _ hg rfl hd (by simp) (fun a w hat => by
    have hm : ar.map a.eval = vs.toArray := by
      have := hat.1.evl ha
      apply Array.ext'
      simpa using this
    simp [execOp, Instr.makeFunc, hm, Result.andThen]) k
def NoGoto (Q : Qt) : Qt := fun e a w => match e with
  | .goto _ => False
  | e => Q e a w
theorem stepR_scope' {P : Program} {b : Frame} {a : Act} {k : List Item} {cs : List Frame} {w : World} {c : Code} : step P (lone (b.atR a (.code (.scope c) :: k)) cs w) = .next (lone (b.atR a (.code c :: .inScope c :: k)) cs w) :=
  step_lone_go (by simp [stepG, stepG.exec, Frame.atR])
theorem stepR_inScope' {P : Program} {b : Frame} {a : Act} {k : List Item} {cs : List Frame} {w : World} {c : Code} : step P (lone (b.atR a (.inScope c :: k)) cs w) = .next (lone (b.atR a k) cs w) :=
  step_lone_go (by simp [stepG, stepG.exec, Frame.atR])
theorem wpIn_scope' {F : Fence} {n : Nat} {P : Program} {Q : Qt} {a : Act} {w : World} {c : Code} (h : c.wpIn F n P (NoGoto Q) a w) : (Code.scope c).wpIn F n P Q a w := by
  intro b k cs hro hb hr
  have h0 : (lone (b.atR a (.code (.scope c) :: k)) cs w).fenced P F := fenced_calm hb hr rfl
  obtain ⟨e, a₁, w₁, hq, harr⟩ := h b (.inScope c :: k) cs hro hb hr
  cases e with
  | normal => exact ⟨.normal, a₁, w₁, hq, .head h0 stepR_scope' (StepsIn.trans harr (.one (fenced_calm hb hr rfl) stepR_inScope'))⟩
  | exit id =>
    have hx : exitTo id (.inScope c :: k) = exitTo id k := by simp [exitTo]
    exact ⟨.exit id, a₁, w₁, hq, fun k' hk => .head h0 stepR_scope' (harr.1 k' (by rw [hx]; exact hk)),
      fun hr' hk => let ⟨k₁, h1, h2⟩ := harr.2 hr' (by rw [hx]; exact hk); ⟨k₁, h1, .head h0 stepR_scope' h2⟩⟩
  | goto l => exact hq.elim
  | ret => exact ⟨_, a₁, w₁, hq, .of_steps (.one h0 stepR_scope') harr⟩
  | panic ch => exact ⟨_, a₁, w₁, hq, .of_steps (.one h0 stepR_scope') harr⟩
  | outgrown => exact ⟨_, a₁, w₁, hq, .of_steps (.one h0 stepR_scope') harr⟩
section scopes
variable {C : Cx} {cs : List Code} {Q : Qt} {E : Env} {H : List HA}
theorem ES.scope {c : Code} (k : ES C [c] (NoGoto (Exit.then (wps C cs Q) Q)) E H) : ES C (.scope c :: cs) Q E H := by
  intro a w h
  refine wpIn_scope' (wpIn_mono (k a w h) ?_)
  intro e a w h
  cases e <;> exact h
theorem PX.sc_n (k : PX C Q .normal E H) : PX C (NoGoto Q) .normal E H := k
theorem PX.sc_r (k : PX C Q .ret E H) : PX C (NoGoto Q) .ret E H := k
theorem PX.sc_x {id : Nat} (k : PX C Q (.exit id) E H) : PX C (NoGoto Q) (.exit id) E H := k
end scopes
mutual
inductive RS : Bool → (C : Cx) → Env → List HA → List Code → Qt → Prop
  | seq {b : Bool} {C : Cx} {E : Env} {H : List HA} {Q : Qt} {cs : List Code} {x y : Code} (k : RS b C E H (x :: y :: cs) Q) : RS b C E H (.seq x y :: cs) Q
  | skip {b : Bool} {C : Cx} {E : Env} {H : List HA} {Q : Qt} {cs : List Code} (k : RS b C E H cs Q) : RS b C E H (.skip :: cs) Q
  | region {C : Cx} {E : Env} {H : List HA} {Q : Qt} {cs : List Code} {i : Nat} {ops : Array Oper} (k : RE' true C E H ops ops.toList (Exit.then (wps C cs Q) Q)) : RS true C E H (.region i ops false :: cs) Q
  | block {b : Bool} {C : Cx} {E : Env} {H : List HA} {Q : Qt} {cs : List Code} {id : Nat} {c : Code} (k : RS b C E H [c] (Exit.inBlock id (Exit.then (wps C cs Q) Q))) : RS b C E H (.block id c :: cs) Q
  | nil {b : Bool} {C : Cx} {E : Env} {H : List HA} {Q : Qt} (k : RP b C E H Q .normal) : RS b C E H [] Q
  | exit {b : Bool} {C : Cx} {E : Env} {H : List HA} {Q : Qt} {cs : List Code} {id : Nat} (k : RP b C E H Q (.exit id)) : RS b C E H (.exit id :: cs) Q
  | ret {b : Bool} {C : Cx} {E : Env} {H : List HA} {Q : Qt} {cs : List Code} (k : RP b C E H Q .ret) : RS b C E H (.ret :: cs) Q
  | label {b : Bool} {C : Cx} {E : Env} {H : List HA} {Q : Qt} {cs : List Code} {l : Nat} (k : RS b C E H cs Q) : RS b C E H (.label l :: cs) Q
  | scope {b : Bool} {C : Cx} {E : Env} {H : List HA} {Q : Qt} {cs : List Code} {c : Code} (k : RS b C E H [c] (NoGoto (Exit.then (wps C cs Q) Q))) : RS b C E H (.scope c :: cs) Q
  | l {b : Bool} {C : Cx} {E : Env} {H : List HA} {Q : Qt} {cs : List Code} (k : ES C cs Q E H) : RS b C E H cs Q
inductive RE' : Bool → (C : Cx) → Env → List HA → Array Oper → List Oper → Qt → Prop
  | nil {b : Bool} {C : Cx} {E : Env} {H : List HA} {Q : Qt} {cs : List Code} {all : Array Oper} (k : RS b C E H cs Q) : RE' b C E H all [] (Exit.then (wps C cs Q) Q)
  | l {b : Bool} {C : Cx} {E : Env} {H : List HA} {Q : Qt} {all : Array Oper} {ops : List Oper} (k : EL C all ops Q E H) : RE' b C E H all ops Q
inductive RP : Bool → (C : Cx) → Env → List HA → Qt → Exit → Prop
  | hit {b : Bool} {C : Cx} {E : Env} {H : List HA} {Q : Qt} {id : Nat} (k : RP b C E H Q .normal) : RP b C E H (Exit.inBlock id Q) (.exit id)
  | miss {b : Bool} {C : Cx} {E : Env} {H : List HA} {Q : Qt} {id id' : Nat} (hne : Nat.beq id' id = false) (k : RP b C E H Q (.exit id')) : RP b C E H (Exit.inBlock id Q) (.exit id')
  | then_x {b : Bool} {C : Cx} {E : Env} {H : List HA} {Q : Qt} {K : Act → World → Prop} {id : Nat} (k : RP b C E H Q (.exit id)) : RP b C E H (Exit.then K Q) (.exit id)
  | then_r {b : Bool} {C : Cx} {E : Env} {H : List HA} {Q : Qt} {K : Act → World → Prop} (k : RP b C E H Q .ret) : RP b C E H (Exit.then K Q) .ret
  | block_n {b : Bool} {C : Cx} {E : Env} {H : List HA} {Q : Qt} {id : Nat} (k : RP b C E H Q .normal) : RP b C E H (Exit.inBlock id Q) .normal
  | block_r {b : Bool} {C : Cx} {E : Env} {H : List HA} {Q : Qt} {id : Nat} (k : RP b C E H Q .ret) : RP b C E H (Exit.inBlock id Q) .ret
  | then_n {b : Bool} {C : Cx} {E : Env} {H : List HA} {Q : Qt} {cs : List Code} (k : RS b C E H cs Q) : RP b C E H (Exit.then (wps C cs Q) Q) .normal
  | then_d {b : Bool} {C : Cx} {E : Env} {H : List HA} {Q : Qt} {cs : List Code} {D' : List Deferred} (k : RS b C E H cs Q) : RP b C E H (Exit.then (wps { C with D := D' } cs Q) Q) .normal
  | sc_n {b : Bool} {C : Cx} {E : Env} {H : List HA} {Q : Qt} (k : RP b C E H Q .normal) : RP b C E H (NoGoto Q) .normal
  | sc_r {b : Bool} {C : Cx} {E : Env} {H : List HA} {Q : Qt} (k : RP b C E H Q .ret) : RP b C E H (NoGoto Q) .ret
  | sc_x {b : Bool} {C : Cx} {E : Env} {H : List HA} {Q : Qt} {id : Nat} (k : RP b C E H Q (.exit id)) : RP b C E H (NoGoto Q) (.exit id)
  | l {b : Bool} {C : Cx} {E : Env} {H : List HA} {Q : Qt} {e : Exit} (k : PX C Q e E H) : RP b C E H Q e
end
mutual
theorem RS.go : ∀ {b : Bool} {C : Cx} {E : Env} {H : List HA} {cs : List Code} {Q : Qt}, RS b C E H cs Q → ES C cs Q E H
  | _, _, _, _, _, _, .seq k => ES.seq k.go
  | _, _, _, _, _, _, .skip k => ES.skip k.go
  | _, _, _, _, _, _, .region k => ES.region k.go
  | _, _, _, _, _, _, .block k => ES.block k.go
  | _, _, _, _, _, _, .nil k => ES.nil k.go
  | _, _, _, _, _, _, .exit k => ES.exit k.go
  | _, _, _, _, _, _, .ret k => ES.ret k.go
  | _, _, _, _, _, _, .label k => ES.label k.go
  | _, _, _, _, _, _, .scope k => ES.scope k.go
  | _, _, _, _, _, _, .l k => k
theorem RE'.go : ∀ {b : Bool} {C : Cx} {E : Env} {H : List HA} {all : Array Oper} {ops : List Oper} {Q : Qt}, RE' b C E H all ops Q → EL C all ops Q E H
  | _, _, _, _, _, _, _, .nil k => EL.nil k.go
  | _, _, _, _, _, _, _, .l k => k
theorem RP.go : ∀ {b : Bool} {C : Cx} {E : Env} {H : List HA} {Q : Qt} {e : Exit}, RP b C E H Q e → PX C Q e E H
  | _, _, _, _, _, _, .hit k => PX.hit k.go
  | _, _, _, _, _, _, .miss hne k => PX.miss hne k.go
  | _, _, _, _, _, _, .then_x k => PX.then_x k.go
  | _, _, _, _, _, _, .then_r k => PX.then_r k.go
  | _, _, _, _, _, _, .block_n k => PX.block_n k.go
  | _, _, _, _, _, _, .block_r k => PX.block_r k.go
  | _, _, _, _, _, _, .then_n k => PX.then_n (e := .normal) k.go
  | _, _, _, _, _, _, .then_d k => PX.then_d k.go
  | _, _, _, _, _, _, .sc_n k => PX.sc_n k.go
  | _, _, _, _, _, _, .sc_r k => PX.sc_r k.go
  | _, _, _, _, _, _, .sc_x k => PX.sc_x k.go
  | _, _, _, _, _, _, .l k => k
end
theorem ES.gr {C : Cx} {cs : List Code} {Q : Qt} {E : Env} {H : List HA} (h : RS true C E H cs Q) : ES C cs Q E H := h.go
theorem EL.gr {C : Cx} {Q : Qt} {E : Env} {H : List HA} {all : Array Oper} {ops : List Oper} (h : RE' true C E H all ops Q) : EL C all ops Q E H := h.go
theorem PX.gr {C : Cx} {Q : Qt} {E : Env} {H : List HA} {e : Exit} (h : RP true C E H Q e) : PX C Q e E H := h.go
theorem ES.gs {C : Cx} {cs : List Code} {Q : Qt} {E : Env} {H : List HA} (h : RS false C E H cs Q) : ES C cs Q E H := h.go
theorem EL.gs {C : Cx} {Q : Qt} {E : Env} {H : List HA} {all : Array Oper} {ops : List Oper} (h : RE' false C E H all ops Q) : EL C all ops Q E H := h.go
theorem PX.gs {C : Cx} {Q : Qt} {E : Env} {H : List HA} {e : Exit} (h : RP false C E H Q e) : PX C Q e E H := h.go
end Go.Proofs.YthcbjbkheodejaaGreat.Sl
namespace Go.Proofs.YthcbjbkheodejaaGreat.Sl
open Go Go.RowKit
def MutAt {X : Type} (P : Program) (f : FuncId) (argv : Array Value) (Hq : List HA) (val : X → Value) (HX : X → List HA) (w0 : World) (B : Nat) : Prop :=
  ∀ (R : List HA) (w : World), Sat w0 B (Hq ++ R) w → Calls P f argv w fun e w' => ∃ x, e = .returned (val x) ∧ Sat w0 B (HX x ++ R) w'
theorem all1 {vs : List Value} (h : vs.all (fun u : Value => u.oneCell') = true) : ∀ u ∈ vs, u.oneCell' = true := fun u hu => List.all_eq_true.1 h u hu
section m
variable {C : Cx} {all : Array Oper} {ops : List Oper} {Q : Qt} {E : Env} {H R : List HA} {d ty : Nat} {pos : String} {af : Array Edge} {gd : Option (Nat × Bool)}
theorem EL.callMw {X : Type} {fo : Operand} {ar : Array Operand} {tys : Array TypeId} {f : FuncId} {vs : List Value} {Hq : List HA} {val : X → Value} {HX : X → List HA} (hg : guardOk all E gd = some true) (hf : E.ev fo = some (.func (.func f) #[] #[])) (ha : E.evl ar.toList = some vs)
    (he : Enters C.P f) (hd : Nat.blt d C.n = true) (hc : MutAt C.P f vs.toArray Hq val HX C.w0 C.B) (tk : Takes H Hq R)
    (k : ∀ x, EL C all ops Q ((d, val x) :: E) (HX x ++ R)) : EL C all (⟨some d, .call { callee := .value fo, args := ar, argTypes := tys }, ty, pos, af, gd⟩ :: ops) Q E H :=
  EL.call val (fun x => HX x ++ R) hg hf ha (by simp) he hd (fun w hs => hc R w (hs.perm tk.perm)) k
theorem EL.callMw1 {fo : Operand} {ar : Array Operand} {tys : Array TypeId} {f : FuncId} {vs : List Value} {Hq Hr : List HA} {v : Value} (hg : guardOk all E gd = some true) (hf : E.ev fo = some (.func (.func f) #[] #[])) (ha : E.evl ar.toList = some vs)
    (he : Enters C.P f) (hd : Nat.blt d C.n = true) (hc : MutAt C.P f vs.toArray Hq (fun _ : Unit => v) (fun _ => Hr) C.w0 C.B) (tk : Takes H Hq R)
    (k : EL C all ops Q ((d, v) :: E) (Hr ++ R)) : EL C all (⟨some d, .call { callee := .value fo, args := ar, argTypes := tys }, ty, pos, af, gd⟩ :: ops) Q E H :=
  EL.callMw hg hf ha he hd hc tk (fun _ => k)
end m
section mm
variable {C : Cx} {E : Env} {H : List HA} {d ty : Nat} {pos : String} {af : Array Edge} {gd : Option (Nat × Bool)} {x y : Operand} {m n : Int} {k : IntKind} {tys : Array TypeId}
theorem RV.minI (hx : E.ev x = some (.int k m)) (hy : E.ev y = some (.int k n)) : RunV C E H ⟨some d, .call { callee := .builtin .min, args := #[x, y], argTypes := tys }, ty, pos, af, gd⟩ (.int k (min m n)) := fun a w ha => by
  have h : (if n < m then n else m) = min m n := by omega
  simp [execOp, ha.1.ev hx, ha.1.ev hy, resolve, invoke, builtin, Builtin.min_, Builtin.min2, Result.andThen, h]
theorem RV.maxI (hx : E.ev x = some (.int k m)) (hy : E.ev y = some (.int k n)) : RunV C E H ⟨some d, .call { callee := .builtin .max, args := #[x, y], argTypes := tys }, ty, pos, af, gd⟩ (.int k (max m n)) := fun a w ha => by
  have h : (if m < n then n else m) = max m n := by omega
  simp [execOp, ha.1.ev hx, ha.1.ev hy, resolve, invoke, builtin, Builtin.max_, Builtin.max2, Result.andThen, h]
end mm
section p
variable {C : Cx} {all : Array Oper} {Q : Qt} {E : Env} {H Hs : List HA} {f : Nat} {L : Array Bool}
theorem ED.partB {d : Nat} {b : Bool} (hv : E.get d = some (.bool b)) (ht : b = true → ED C all Hs f L ((d, .bool true) :: E) H Q) (hf : b = false → ED C all Hs f L ((d, .bool false) :: E) H Q) : ED C all Hs f L E H Q := by
  intro a w ha hs
  have hslot := ha.1.get d _ hv
  have fit : ∀ c : Bool, b = c → Fits C.n C.D ((d, .bool c) :: E) a := fun c hb => ⟨ha.1.dfr, ha.1.size, fun d' v' h' => by
    rw [Env.get_cons] at h'
    by_cases e : d = d'
    · subst e; rw [if_pos rfl] at h'; rw [← Option.some.inj h', hslot, hb]
    · rw [if_neg e] at h'; exact ha.1.get d' v' h'⟩
  cases hb : b with
  | true => exact ht hb a w ⟨fit true hb, ha.2⟩ hs
  | false => exact hf hb a w ⟨fit false hb, ha.2⟩ hs
theorem ED.partN {d : Nat} {p : Prop} [Decidable p] (hv : E.get d = some (.bool (!decide p))) (ht : ¬ p → ED C all Hs f L ((d, .bool true) :: E) H Q) (hf : p → ED C all Hs f L ((d, .bool false) :: E) H Q) : ED C all Hs f L E H Q :=
  ED.partB hv (fun e => ht (by simpa using e)) (fun e => hf (by simpa using e))
end p
section imp
variable {C : Cx} {cs : List Code} {all : Array Oper} {ops : List Oper} {Q : Qt} {E : Env} {H H' : List HA}
theorem ES.imp (h : ∀ w, Sat C.w0 C.B H w → Sat C.w0 C.B H' w) (k : ES C cs Q E H') : ES C cs Q E H := fun a w ha => k a w ⟨ha.1, h w ha.2⟩
theorem EL.imp (h : ∀ w, Sat C.w0 C.B H w → Sat C.w0 C.B H' w) (k : EL C all ops Q E H') : EL C all ops Q E H := fun a w ha => k a w ⟨ha.1, h w ha.2⟩
end imp
end Go.Proofs.YthcbjbkheodejaaGreat.Sl
namespace Go.Proofs.YthcbjbkheodejaaGreat
open Go Go.RowKit Sl
set_option maxRecDepth 100000
set_option maxHeartbeats 8000000
attribute [local irreducible] ES EL PX wps
def idxB (l : List UInt8) (c : UInt8) : Int := Lib.indexByte l c
theorem idxB_nonneg (l : List UInt8) (c : UInt8) : 0 ≤ idxB l c ↔ c ∈ l := by
  unfold idxB
  induction l with
  | nil => simp [Lib.indexByte]
  | cons b l ih =>
    have hge := Lib.indexByte_ge l c
    by_cases h : b = c
    · subst h; simp [Lib.indexByte]
    · have h' : c ≠ b := fun e => h e.symm
      simp only [Lib.indexByte, beq_iff_eq, h, if_false, List.mem_cons, h', false_or]
      rw [← ih]
      by_cases h2 : Lib.indexByte l c = -1
      · rw [if_pos h2, h2]
      · rw [if_neg h2]; omega
def GR (w : World) (B : Nat) : Prop := ∃ m : Int, Rd w B (some ⟨0, 0, none⟩) [Iv m]
theorem GR.sat {w0 w : World} {B : Nat} {H : List HA} (h : GR w0 B) (hs : Sat w0 B H w) : GR w w.heap.size := by
  obtain ⟨m, hm⟩ := h
  exact ⟨m, Rd.sat hm hs⟩
theorem GR.of {w : World} (h : w.ShapedOpen Tryz.prog) : GR w w.heap.size := by
  obtain ⟨m, hm⟩ := Tryz.lays143.s1_3 w h
  have hm' : w.cell? ⟨0, 0, none⟩ = some (.int .i64 m) := hm
  refine ⟨m, fun _ => ⟨_, _, rfl, World.block_lt_of_cell? _ _ hm', fun j v hj => ?_⟩⟩
  cases j with
  | zero => simp only [List.getElem?_cons_zero, Option.some.injEq] at hj; subst hj; exact hm'
  | succ j => simp at hj
theorem sindex_c (l sub : List UInt8) (hl : l.length < 4294967281) (w : World) (hG : GR w w.heap.size) : Pure Tryz.prog 131 #[Sv l, Sv sub] (fun _ : Unit => Iv (Lib.index l sub)) (fun _ => []) w := by
  obtain ⟨m, hm⟩ := hG
  obtain ⟨g, off, h1, _, h3⟩ := hm (by simp)
  have hc : w.cell? ⟨0, 0, none⟩ = some (.int .i64 m) := by
    cases h1; exact h3 0 _ rfl
  exact (Any.strings_Index { Tryz.lays143 with } ⟨l.toArray⟩ ⟨sub.toArray⟩ m w hl hc).mono fun e w' ⟨he, hw⟩ => ⟨(), he, by subst hw; exact Sat.start _⟩
theorem ext_index (l : List UInt8) (c : UInt8) (w : World) : (callFunc 135 #[Sv l, Uv c]).run Tryz.prog w = .ok (.value (Iv (idxB l c))) w := by
  rw [run_callFunc_extern (e := Extern.BytealgIndexByte.indexByte) Tryz.func135 (by kernel_rfl) (by kernel_rfl) (by kernel_rfl) (by kernel_rfl), Lib.run_indexByteString]
  simp [Result.andThen, idxB]
theorem lite_c (l : List UInt8) (c : UInt8) (w : World) : Pure Tryz.prog 130 #[Sv l, Uv c] (fun _ : Unit => Iv (idxB l c)) (fun _ => []) w := by
  refine calls_of_ES TB Tryz.func130 rfl _ Tryz.ntmps130 rfl (Sat.start w) ?_; refine .go ?_; (repeat constructor); refine .as_ ?_; refine .go ?_; (repeat constructor); refine .mv ?_; refine .mv ?_; refine EL.callE rfl rfl rfl rfl (ext_index l c) ?_; refine .as_ ?_; refine .go ?_; repeat constructor
  exact PX.ret rfl Tryz.results130 (.cons (.tmp rfl) .nil) (fun w hs => ⟨(), rfl, hs.ent (.nil _)⟩)
theorem index_c (l : List UInt8) (c : UInt8) (w : World) : Pure Tryz.prog 125 #[Sv l, Uv c] (fun _ : Unit => Iv (idxB l c)) (fun _ => []) w := by
  refine calls_of_ES TB Tryz.func125 rfl _ Tryz.ntmps125 rfl (Sat.start w) ?_; refine .go ?_; (repeat constructor); refine .as_ ?_; refine .go ?_; (repeat constructor); refine .mv ?_; refine .mv ?_; refine EL.callP rfl rfl rfl ent130 rfl (lite_c _ _) ?_; refine .as_ ?_; refine .go ?_; repeat constructor
  exact PX.ret rfl Tryz.results125 (.cons (.tmp rfl) .nil) (fun w hs => ⟨(), rfl, hs.ent (.nil _)⟩)
abbrev RD (g : Nat) (t : List UInt8) (a : Nat) (e : Int) : HA := HA.blk g (.cells #[Sv t, Iv (a : Nat), Iv e] 202)
def nmK (t : List UInt8) (a : Nat) : Int := if a + 2 < t.length then Lib.index (t.drop (a + 2 + 1)) [t.getD (a + 1) 0, 93] else -1
def nmN (t : List UInt8) (a : Nat) : List UInt8 := if nmK t a < 0 then [] else (t.drop (a + 2)).take (1 + (nmK t a).toNat)
def nmA (t : List UInt8) (a : Nat) : Nat := if nmK t a < 0 then a else a + 2 + 1 + (nmK t a).toNat + 2
def nmE (t : List UInt8) (a : Nat) : Int := if nmK t a < 0 then 6 else 0
theorem nmK_room (t : List UInt8) (a k : Nat) (h : nmK t a = k) : a + 2 + 1 + k + 2 ≤ t.length := by
  unfold nmK at h
  split at h
  · have := Lib.index_room (t.drop (a + 2 + 1)) [t.getD (a + 1) 0, 93] (by omega)
    rw [h] at this
    simp only [List.length_drop, List.length_cons, List.length_nil] at this
    omega
  · omega
theorem nm_at (t : List UInt8) (a : Nat) (h : a ≤ t.length) : a ≤ nmA t a ∧ nmA t a ≤ t.length := by
  unfold nmA
  split
  · omega
  · have := nmK_room t a (nmK t a).toNat (by omega)
    omega
theorem named_c (g : Nat) (t : List UInt8) (a : Nat) (ha : a + 1 < t.length) (ht : t.length ≤ 1073741824) (w0 : World) (B : Nat) (hG : GR w0 B) :
    MutAt Tryz.prog 126 #[Pv g 0] [RD g t a 0] (fun _ : Unit => .tuple #[Sv (nmN t a), Uv (t.getD (a + 1) 0)]) (fun _ => [RD g t (nmA t a) (nmE t a)]) w0 B := by
  intro R w h
  replace h : Sat w0 B (RD g t a 0 :: R) w := h
  have hroom := nmK_room t a
  refine calls_of_ES TB Tryz.func126 rfl _ Tryz.ntmps126 rfl h ?_; refine .go ?_; (repeat constructor); refine .as_ ?_; refine .as_ ?_; refine .go ?_; repeat constructor
  refine ES.draw (X := Unit) (fun _ => [(0, Pv g 0), (4, Uv (t.getD (a + 1) 0))]) (fun _ => RD g t a 0 :: R) (RD g t a 0 :: R) mixed (.i (by repeat constructor)) ?_ (fun _ => ?_)
  · refine .tk 0 rfl (RV.move rfl) ?_; refine .tk 1 rfl (RV.nilCheck rfl) ?_; refine .tk 2 rfl (RV.fieldAddr rfl rfl rfl rfl rfl rfl) ?_; refine .tk 3 rfl (RV.loadB rfl rfl rfl (by repeat constructor) rfl) ?_; refine .tk 4 rfl (RV.move rfl) ?_; refine .tk 5 rfl (RV.nilCheck rfl) ?_; refine .tk 6 rfl (RV.fieldAddr rfl rfl rfl rfl rfl rfl) ?_; refine .tk 7 rfl (RV.loadB rfl rfl rfl (by repeat constructor) rfl) ?_; refine .tk 8 rfl (RV.add1 rfl rfl (by omega)) ?_; refine .tk 9 rfl (RV.indexSN rfl rfl rfl rfl (by omega)) ?_; refine .tk 10 rfl (RV.assign rfl) ?_; refine .dn ?_
    exact .cy ()
  refine .go ?_; (repeat constructor); refine .mv ?_; refine .nc ?_; refine .fa ?_; refine .lb ?_; refine EL.addN (n := 2) rfl rfl rfl rfl rfl (by omega) ?_; refine .as_ ?_; refine .go ?_; (repeat constructor); refine .as_ ?_; refine .go ?_; (repeat constructor); refine .mv ?_; refine .mv ?_; refine .nc ?_; refine .fa ?_; refine .lb ?_; refine .lS ?_; refine .ls ?_; refine .go ?_; repeat constructor
  refine ES.cutC (X := Unit) (fun _ => [(0, Pv g 0), (4, Uv (t.getD (a + 1) 0)), (5, Iv ((a + 2 : Nat) : Int)), (6, Iv (nmK t a))]) (fun _ => RD g t a 0 :: R) ?_ (fun _ => ?_)
  · refine ES.condD rfl (fun hlt => ?_) (fun hge => ?_)
    · have hlt' : a + 2 < t.length := by omega
      refine .g0 ?_; repeat constructor
      refine ES.draw (X := Unit) (fun _ => [(0, Pv g 0), (4, Uv (t.getD (a + 1) 0)), (5, Iv ((a + 2 : Nat) : Int)), (6, Iv (nmK t a))]) (fun _ => RD g t a 0 :: R) (RD g t a 0 :: R) mixed (.i (by repeat constructor)) ?_ (fun _ => ?_)
      · refine .tk 0 rfl (RV.move rfl) ?_; refine .tk 1 rfl (RV.nilCheck rfl) ?_; refine .tk 2 rfl (RV.fieldAddr rfl rfl rfl rfl rfl rfl) ?_; refine .tk 3 rfl (RV.loadB rfl rfl rfl (by repeat constructor) rfl) ?_; refine .tk 4 rfl (RV.move rfl) ?_; refine .tk 5 rfl (RV.add1 rfl rfl (by omega)) ?_; refine .tk 6 rfl (RV.sliceS rfl rfl rfl ⟨_, rfl⟩ rfl (by omega) (by omega)) ?_; refine .tk 7 rfl (RV.move rfl) ?_; refine .ld 8 ?_
        (refine EL.buildSliceS [Uv (t.getD (a + 1) 0), .int .u8 93] rfl rfl rfl rfl rfl rfl rfl rfl rfl rfl (by intro u hu; simp only [List.mem_cons, List.not_mem_nil, or_false] at hu; rcases hu with rfl | rfl <;> rfl) ?_; intro b37)
        refine .nx ?_; refine .ld 9 ?_
        (refine EL.bytesS (bs := [t.getD (a + 1) 0, 93]) rfl rfl rfl rfl rfl rfl rfl rfl rfl (by repeat constructor) ?_)
        refine .nx ?_; refine .ld 10 ?_
        (refine EL.callPw rfl rfl rfl ent131 rfl (fun w hs => sindex_c _ _ (by simp only [List.length_take, List.length_drop]; omega) w (GR.sat hG hs)) ?_)
        refine .nx ?_; refine .tk 11 rfl (RV.assign rfl) ?_; refine .dn ?_
        exact .cx () ⟨rfl, rfl, rfl, getA rfl (congrArg Iv (by unfold nmK; rw [if_pos hlt', List.take_of_length_le (by simp)])), trivial⟩
      refine .go ?_; repeat constructor
      exact .cy ()
    · refine .go ?_; repeat constructor
      exact .cx () ⟨rfl, rfl, rfl, getA rfl (congrArg Iv (by unfold nmK; rw [if_neg (by omega)])), trivial⟩
  refine .go ?_; (repeat constructor); refine .mv ?_; refine .ls ?_; refine .go ?_; repeat constructor
  refine ES.condD rfl (fun hneg => ?_) (fun hpos => ?_)
  · have e1 : nmN t a = [] := by unfold nmN; rw [if_pos hneg]
    have e2 : nmA t a = a := by unfold nmA; rw [if_pos hneg]
    have e3 : nmE t a = 6 := by unfold nmE; rw [if_pos hneg]
    refine .go ?_; (repeat constructor); refine .mv ?_; refine .nc ?_; refine .fa ?_; refine .sb ?_; refine .go ?_; (repeat constructor); refine .mv ?_; refine .as_ ?_; refine .as_ ?_; refine .go ?_; repeat constructor
    refine PX.ret rfl Tryz.results126 (.cons (.tmp rfl) (.cons (.tmp rfl) .nil)) (fun w hs => ⟨(), by rw [e1]; rfl, ?_⟩)
    rw [e2, e3]; exact hs
  · obtain ⟨k, hk⟩ : ∃ k : Nat, nmK t a = k := ⟨(nmK t a).toNat, by omega⟩
    have hr := hroom k hk
    have e1 : nmN t a = (t.drop (a + 2)).take (1 + k) := by unfold nmN; rw [hk, if_neg (by omega)]; rfl
    have e2 : nmA t a = a + 2 + 1 + k + 2 := by unfold nmA; rw [hk, if_neg (by omega)]; rfl
    have e3 : nmE t a = 0 := by unfold nmE; rw [if_neg hpos]
    rw [hk, e1, e2, e3]
    refine .go ?_; (repeat constructor); refine .mv ?_; refine .mv ?_; refine .a1 ?_; refine .mv ?_; refine EL.addN rfl rfl rfl rfl rfl (by omega) ?_; refine EL.addN (n := 2) rfl rfl rfl rfl rfl (by omega) ?_; refine .nc ?_; refine .fa ?_; refine .sb ?_; refine .go ?_; (repeat constructor); refine .mv ?_; refine .nc ?_; refine .fa ?_; refine .lb ?_; refine .mv ?_; refine .mv ?_; refine .a1 ?_; refine .mv ?_; refine EL.addN rfl rfl rfl rfl rfl (by omega) ?_; refine EL.sliceS rfl rfl rfl rfl rfl ⟨_, rfl⟩ ⟨_, rfl⟩ (by omega) (by omega) ?_; refine .mv ?_; refine .as_ ?_; refine .as_ ?_; refine .go ?_; repeat constructor
    refine PX.ret rfl Tryz.results126 (.cons (.tmp rfl) (.cons (.tmp rfl) .nil)) (fun w hs => ⟨(), ?_, hs⟩)
    rw [show a + 2 + 1 + k - (a + 2) = 1 + k by omega]; rfl
structure It where
  set : BS
  b : UInt8
  single : Bool
  at_ : Nat
  e : Int
def itC (t : List UInt8) (a : Nat) : Bool := !decide (((t.getD a 0).toNat : Int) = 91) || decide ((t.length : Int) ≤ ((a + 1 : Nat) : Int)) || decide (idxB [46, 61, 58] (t.getD (a + 1) 0) < 0)
def itemM (t : List UInt8) (a : Nat) : It :=
  if itC t a = true then ⟨ofS [t.getD a 0], t.getD a 0, true, a + 1, 0⟩
  else if nmE t a ≠ 0 then ⟨zeroS, 0, false, nmA t a, nmE t a⟩
  else if t.getD (a + 1) 0 = 58 then ⟨(classM (nmN t a)).1, 0, false, nmA t a, (classM (nmN t a)).2⟩
  else if (nmN t a).length ≠ 1 then ⟨zeroS, 0, false, nmA t a, 8⟩
  else ⟨ofS (nmN t a), (nmN t a).getD 0 0, decide (t.getD (a + 1) 0 = 46), nmA t a, 0⟩
theorem item_at (t : List UInt8) (a : Nat) (h : a < t.length) : a ≤ (itemM t a).at_ ∧ (itemM t a).at_ ≤ t.length ∧ ((itemM t a).e = 0 → a < (itemM t a).at_) := by
  have hn := nm_at t a (by omega)
  have hs : nmE t a = 0 → a < nmA t a := by
    unfold nmE nmA
    split
    · intro h; cases h
    · intro _; omega
  unfold itemM
  split
  · exact ⟨by simp only; omega, by simp only; omega, fun _ => by simp only; omega⟩
  · split
    · rename_i h1
      exact ⟨hn.1, hn.2, fun h2 => absurd h2 h1⟩
    · rename_i h1
      have := hs (Decidable.of_not_not h1)
      split
      · exact ⟨hn.1, hn.2, fun _ => this⟩
      · split
        · exact ⟨hn.1, hn.2, fun _ => this⟩
        · exact ⟨hn.1, hn.2, fun _ => this⟩
theorem u8_lit (x : UInt8) (n : Nat) (hn : n < 256) : ((x.toNat : Int) = (n : Nat)) ↔ x = UInt8.ofNat n := by
  constructor
  · intro h
    apply UInt8.toNat_inj.1
    have h2 : (UInt8.ofNat n).toNat = n := by simp; omega
    rw [h2]; omega
  · intro h
    subst h
    simp
    omega
theorem item_c (g : Nat) (t : List UInt8) (a : Nat) (ha : a < t.length) (ht : t.length ≤ 1073741824) (w0 : World) (B : Nat) (hG : GR w0 B) :
    MutAt Tryz.prog 116 #[Pv g 0] [RD g t a 0] (fun _ : Unit => .tuple #[Bs (itemM t a).set, Uv (itemM t a).b, .bool (itemM t a).single]) (fun _ => [RD g t (itemM t a).at_ (itemM t a).e]) w0 B := by
  intro R w h
  replace h : Sat w0 B (RD g t a 0 :: R) w := h
  refine calls_of_ES TB Tryz.func116 rfl _ Tryz.ntmps116 rfl h ?_; refine .go ?_; (repeat constructor); (refine .al ?_; intro g2); refine .as_ ?_; refine .as_ ?_; refine .go ?_; repeat constructor
  refine ES.draw (X := Unit) (fun _ => [(0, Pv g 0), (2, Pv g2 0), (43, .bool (itC t a))]) (fun _ => SB g2 zeroS :: RD g t a 0 :: R) (SB g2 zeroS :: RD g t a 0 :: R) mixed (.i (by repeat constructor)) ?_ (fun _ => ?_)
  · refine .tk 0 rfl (RV.move rfl) ?_; refine .tk 1 rfl (RV.nilCheck rfl) ?_; refine .tk 2 rfl (RV.fieldAddr rfl rfl rfl rfl rfl rfl) ?_; refine .tk 3 rfl (RV.loadB rfl rfl rfl (by repeat constructor) rfl) ?_; refine .tk 4 rfl (RV.move rfl) ?_; refine .tk 5 rfl (RV.nilCheck rfl) ?_; refine .tk 6 rfl (RV.fieldAddr rfl rfl rfl rfl rfl rfl) ?_; refine .tk 7 rfl (RV.loadB rfl rfl rfl (by repeat constructor) rfl) ?_; refine .tk 8 rfl (RV.indexSN rfl rfl rfl rfl (by omega)) ?_; refine .tk 9 rfl (RV.neqI rfl rfl) ?_; refine .tk 10 rfl (RV.move rfl) ?_
    first | refine ED.part (d := 17) rfl (fun hp17 => ?_) (fun hp17 => ?_) | refine ED.partN (d := 17) rfl (fun hp17 => ?_) (fun hp17 => ?_) | refine ED.partB (d := 17) rfl (fun hp17 => ?_) (fun hp17 => ?_)
    · refine .pa 11 rfl ?_; refine .pa 12 rfl ?_; refine .pa 13 rfl ?_; refine .pa 14 rfl ?_; refine .pa 15 rfl ?_; refine .pa 16 rfl ?_; refine .pa 17 rfl ?_; refine .pa 18 rfl ?_; refine .pa 19 rfl ?_; refine .pa 20 rfl ?_; refine .pa 21 rfl ?_; refine .tk 22 rfl (RV.pickT rfl rfl) ?_; refine .tk 23 rfl (RV.move rfl) ?_; refine .pa 24 rfl ?_; refine .pa 25 rfl ?_; refine .pa 26 rfl ?_; refine .pa 27 rfl ?_; refine .pa 28 rfl ?_; refine .pa 29 rfl ?_; refine .pa 30 rfl ?_; refine .pa 31 rfl ?_; refine .pa 32 rfl ?_; refine .pa 33 rfl ?_; refine .pa 34 rfl ?_; refine .pa 35 rfl ?_; refine .tk 36 rfl (RV.pickT rfl rfl) ?_; refine .dn ?_
      exact .cx () ⟨rfl, rfl, getA rfl (congrArg Value.bool (by unfold itC; simp_all <;> omega)), trivial⟩
    · refine .tk 11 rfl (RV.move rfl) ?_; refine .tk 12 rfl (RV.nilCheck rfl) ?_; refine .tk 13 rfl (RV.fieldAddr rfl rfl rfl rfl rfl rfl) ?_; refine .tk 14 rfl (RV.loadB rfl rfl rfl (by repeat constructor) rfl) ?_; refine .tk 15 rfl (RV.add1 rfl rfl (by omega)) ?_; refine .tk 16 rfl (RV.move rfl) ?_; refine .tk 17 rfl (RV.nilCheck rfl) ?_; refine .tk 18 rfl (RV.fieldAddr rfl rfl rfl rfl rfl rfl) ?_; refine .tk 19 rfl (RV.loadB rfl rfl rfl (by repeat constructor) rfl) ?_; refine .tk 20 rfl (RV.lenS rfl rfl rfl) ?_; refine .tk 21 rfl (RV.geq rfl rfl) ?_; refine .tk 22 rfl (RV.pickF rfl rfl) ?_; refine .tk 23 rfl (RV.move rfl) ?_
      first | refine ED.part (d := 30) rfl (fun hp30 => ?_) (fun hp30 => ?_) | refine ED.partN (d := 30) rfl (fun hp30 => ?_) (fun hp30 => ?_) | refine ED.partB (d := 30) rfl (fun hp30 => ?_) (fun hp30 => ?_)
      · refine .pa 24 rfl ?_; refine .pa 25 rfl ?_; refine .pa 26 rfl ?_; refine .pa 27 rfl ?_; refine .pa 28 rfl ?_; refine .pa 29 rfl ?_; refine .pa 30 rfl ?_; refine .pa 31 rfl ?_; refine .pa 32 rfl ?_; refine .pa 33 rfl ?_; refine .pa 34 rfl ?_; refine .pa 35 rfl ?_; refine .tk 36 rfl (RV.pickT rfl rfl) ?_; refine .dn ?_
        exact .cx () ⟨rfl, rfl, getA rfl (congrArg Value.bool (by unfold itC; simp_all <;> omega)), trivial⟩
      · refine .tk 24 rfl (RV.move rfl) ?_; refine .tk 25 rfl (RV.nilCheck rfl) ?_; refine .tk 26 rfl (RV.fieldAddr rfl rfl rfl rfl rfl rfl) ?_; refine .tk 27 rfl (RV.loadB rfl rfl rfl (by repeat constructor) rfl) ?_; refine .tk 28 rfl (RV.move rfl) ?_; refine .tk 29 rfl (RV.nilCheck rfl) ?_; refine .tk 30 rfl (RV.fieldAddr rfl rfl rfl rfl rfl rfl) ?_; refine .tk 31 rfl (RV.loadB rfl rfl rfl (by repeat constructor) rfl) ?_; refine .tk 32 rfl (RV.add1 rfl rfl (by omega)) ?_; refine .tk 33 rfl (RV.indexSN rfl rfl rfl rfl (by omega)) ?_; refine .ld 34 ?_; refine EL.callP rfl rfl rfl ent125 rfl (index_c _ _) ?_; refine .nx ?_; refine .tk 35 rfl (RV.lss rfl rfl) ?_; refine .tk 36 rfl (RV.pickF rfl rfl) ?_; refine .dn ?_
        exact .cx () ⟨rfl, rfl, getA rfl (congrArg Value.bool (by unfold itC; simp_all <;> omega)), trivial⟩
  refine ES.cond rfl (fun hc => ?_) (fun hc => ?_)
  · have hi : itemM t a = ⟨ofS [t.getD a 0], t.getD a 0, true, a + 1, 0⟩ := by unfold itemM; rw [if_pos hc]
    rw [hi]
    refine .g0 ?_; repeat constructor
    refine ES.draw (X := Unit) (fun _ => [(0, Pv g 0), (2, Pv g2 0), (3, Uv (t.getD a 0))]) (fun _ => SB g2 zeroS :: RD g t a 0 :: R) (SB g2 zeroS :: RD g t a 0 :: R) mixed (.i (by repeat constructor)) ?_ (fun _ => ?_)
    · refine .tk 0 rfl (RV.move rfl) ?_; refine .tk 1 rfl (RV.nilCheck rfl) ?_; refine .tk 2 rfl (RV.fieldAddr rfl rfl rfl rfl rfl rfl) ?_; refine .tk 3 rfl (RV.loadB rfl rfl rfl (by repeat constructor) rfl) ?_; refine .tk 4 rfl (RV.move rfl) ?_; refine .tk 5 rfl (RV.nilCheck rfl) ?_; refine .tk 6 rfl (RV.fieldAddr rfl rfl rfl rfl rfl rfl) ?_; refine .tk 7 rfl (RV.loadB rfl rfl rfl (by repeat constructor) rfl) ?_; refine .tk 8 rfl (RV.indexSN rfl rfl rfl rfl (by omega)) ?_; refine .tk 9 rfl (RV.assign rfl) ?_; refine .dn ?_
      exact .cy ()
    refine .go ?_; (repeat constructor); refine .mv ?_; refine .nc ?_; refine .fa ?_; refine .lb ?_; refine .a1 ?_; refine .nc ?_; refine .fa ?_; refine .sb ?_; refine .go ?_; (repeat constructor); refine .mv ?_; (refine .b1 ?_; intro b61)
    (refine EL.bytesS (bs := [t.getD a 0]) rfl rfl rfl rfl rfl rfl rfl rfl rfl (by repeat constructor) ?_)
    refine EL.callP rfl rfl rfl ent102 rfl (of_c [t.getD a 0] (by simp)) ?_; refine .mv ?_; refine .sa ?_; refine .as_ ?_; refine .as_ ?_; refine .go ?_; repeat constructor
    exact PX.ret rfl Tryz.results116 (.cons (.blkA rfl rfl rfl (by repeat constructor) rfl) (.cons (.tmp rfl) (.cons (.tmp rfl) .nil))) (fun w hs => ⟨(), rfl, hs.ent (.i (by repeat constructor))⟩)
  · have hfa : ¬ (((t.getD a 0).toNat : Int) ≠ 91) ∧ a + 1 < t.length := by
      unfold itC at hc
      simp only [Bool.or_eq_false_iff, Bool.not_eq_false', decide_eq_true_eq, decide_eq_false_iff_not] at hc
      exact ⟨fun h => h hc.1.1, by omega⟩
    have hi0 : itemM t a = if nmE t a ≠ 0 then ⟨zeroS, 0, false, nmA t a, nmE t a⟩
        else if t.getD (a + 1) 0 = 58 then ⟨(classM (nmN t a)).1, 0, false, nmA t a, (classM (nmN t a)).2⟩
        else if (nmN t a).length ≠ 1 then ⟨zeroS, 0, false, nmA t a, 8⟩
        else ⟨ofS (nmN t a), (nmN t a).getD 0 0, decide (t.getD (a + 1) 0 = 46), nmA t a, 0⟩ := by
      conv => lhs; unfold itemM
      rw [if_neg (by rw [hc]; decide)]
    have h46 : (((t.getD (a + 1) 0).toNat : Int) = 46) ↔ t.getD (a + 1) 0 = 46 := u8_lit (t.getD (a + 1) 0) 46 (by omega)
    have h58 : (((t.getD (a + 1) 0).toNat : Int) = 58) ↔ t.getD (a + 1) 0 = 58 := u8_lit (t.getD (a + 1) 0) 58 (by omega)
    refine .go ?_; (repeat constructor); refine .mv ?_; refine EL.callMw1 rfl rfl rfl ent126 rfl (named_c g t a hfa.2 ht _ _ hG) (by repeat constructor) ?_; refine .mv ?_; refine .ex ?_; refine .ex ?_; refine .as_ ?_; refine .as_ ?_; refine .go ?_; (repeat constructor); refine .go ?_; (repeat constructor); refine .mv ?_; refine .nc ?_; refine .fa ?_; refine .lb ?_; refine .ni ?_; refine .as_ ?_; refine .go ?_; repeat constructor
    refine ES.condN rfl (fun hne => ?_) (fun heq => ?_)
    · rw [if_pos hne] at hi0
      rw [hi0]
      refine .go ?_; (repeat constructor); refine .lg ?_; refine .sa ?_; refine .as_ ?_; refine .as_ ?_; refine .go ?_; repeat constructor
      exact PX.ret rfl Tryz.results116 (.cons (.blkA rfl rfl rfl (by repeat constructor) rfl) (.cons (.tmp rfl) (.cons (.tmp rfl) .nil))) (fun w hs => ⟨(), rfl, hs.ent (.i (by repeat constructor))⟩)
    · rw [if_neg (by simpa using heq)] at hi0
      refine .go ?_; (repeat constructor); refine .mv ?_; refine .ei ?_; refine .as_ ?_; refine .go ?_; repeat constructor
      refine ES.condD rfl (fun h1 => ?_) (fun h1 => ?_)
      · rw [if_pos (h58.1 h1)] at hi0
        rw [hi0]
        refine .go ?_; (repeat constructor); refine .mv ?_; refine .mv ?_; refine EL.callP rfl rfl rfl ent127 rfl (class_c (nmN t a)) ?_; refine .mv ?_; refine .ex ?_; refine .ex ?_; refine .sa ?_; refine .nc ?_; refine .fa ?_; refine .sb ?_; refine .go ?_; (repeat constructor); refine .lg ?_; refine .sa ?_; refine .as_ ?_; refine .as_ ?_; refine .go ?_; repeat constructor
        exact PX.ret rfl Tryz.results116 (.cons (.blkA rfl rfl rfl (by repeat constructor) rfl) (.cons (.tmp rfl) (.cons (.tmp rfl) .nil))) (fun w hs => ⟨(), rfl, hs.ent (.i (by repeat constructor))⟩)
      · rw [if_neg (fun h => h1 (h58.2 h))] at hi0
        refine .go ?_; (repeat constructor); refine .mv ?_; refine .lS ?_; refine .ni ?_; refine .as_ ?_; refine .go ?_; repeat constructor
        refine ES.condN rfl (fun h2 => ?_) (fun h2 => ?_)
        · rw [if_pos (by omega)] at hi0
          rw [hi0]
          refine .go ?_; (repeat constructor); refine .mv ?_; refine .nc ?_; refine .fa ?_; refine .sb ?_; refine .go ?_; (repeat constructor); refine .lg ?_; refine .sa ?_; refine .as_ ?_; refine .as_ ?_; refine .go ?_; repeat constructor
          exact PX.ret rfl Tryz.results116 (.cons (.blkA rfl rfl rfl (by repeat constructor) rfl) (.cons (.tmp rfl) (.cons (.tmp rfl) .nil))) (fun w hs => ⟨(), rfl, hs.ent (.i (by repeat constructor))⟩)
        · rw [if_neg (by omega)] at hi0
          have hl : 0 < (nmN t a).length := by omega
          have hd46 : decide (((t.getD (a + 1) 0).toNat : Int) = 46) = decide (t.getD (a + 1) 0 = 46) := decide_eq_decide.2 h46
          rw [hi0]
          refine .g0 ?_; repeat constructor
          refine ES.draw (X := Unit) (fun _ => [(2, Pv g2 0), (3, Uv ((nmN t a).getD 0 0)), (4, .bool (decide (t.getD (a + 1) 0 = 46)))]) (fun _ => SB g2 (ofS (nmN t a)) :: RD g t (nmA t a) (nmE t a) :: R) (RD g t (nmA t a) (nmE t a) :: R) mixed (.i (by repeat constructor)) ?_ (fun _ => ?_)
          · refine .tk 0 rfl (RV.move rfl) ?_; refine .tk 2 rfl (RV.move rfl) ?_; refine .tk 3 rfl (RV.indexSN (i := 0) rfl rfl rfl rfl hl) ?_; refine .tk 4 rfl (RV.move rfl) ?_; refine .tk 5 rfl (RV.eqlI rfl rfl) ?_; refine .ld 1 ?_; refine EL.callP rfl rfl rfl ent102 rfl (of_c (nmN t a) (by omega)) ?_; refine .nx ?_; refine .ld 6 ?_; refine .sa ?_; refine .nx ?_; refine .tk 7 rfl (RV.assign rfl) ?_; refine .tk 8 rfl (RV.assign rfl) ?_; refine .dn ?_
            exact .cx () ⟨rfl, rfl, getA rfl (congrArg Value.bool hd46), trivial⟩
          refine .go ?_; repeat constructor
          refine PX.ret rfl Tryz.results116 (.cons (.blkA rfl rfl rfl (by repeat constructor) rfl) (.cons (.tmp rfl) (.cons (.tmp rfl) .nil))) (fun w hs => ⟨(), rfl, ?_⟩)
          have he0 : nmE t a = 0 := by simpa using heq
          rw [he0] at hs
          exact hs.ent (.i (by repeat constructor))
def dashM (t : List UInt8) (a : Nat) : Bool := (decide ((a : Int) < (t.length : Int)) && decide (((t.getD a 0).toNat : Int) = 45)) && (decide ((t.length : Int) ≤ ((a + 1 : Nat) : Int)) || !decide (((t.getD (a + 1) 0).toNat : Int) = 93))
theorem dash_lt {t : List UInt8} {a : Nat} (h : dashM t a = true) : a < t.length := by
  unfold dashM at h
  simp only [Bool.and_eq_true, decide_eq_true_eq] at h
  omega
theorem dash_c (g : Nat) (t : List UInt8) (a : Nat) (e : Int) (ht : t.length ≤ 1073741824) (ha : a ≤ t.length) (w0 : World) (B : Nat) :
    MutAt Tryz.prog 117 #[Pv g 0] [RD g t a e] (fun _ : Unit => .bool (dashM t a)) (fun _ => [RD g t a e]) w0 B := by
  intro R w h
  replace h : Sat w0 B (RD g t a e :: R) w := h
  refine calls_of_ES TB Tryz.func117 rfl _ Tryz.ntmps117 rfl h ?_; refine .go ?_; (repeat constructor); refine .as_ ?_; refine .go ?_; repeat constructor
  refine ES.draw (X := Unit) (fun _ => [(2, .bool (dashM t a))]) (fun _ => RD g t a e :: R) (RD g t a e :: R) mixed (.i (by repeat constructor)) ?_ (fun _ => ?_)
  · refine .tk 0 rfl (RV.move rfl) ?_; refine .tk 1 rfl (RV.nilCheck rfl) ?_; refine .tk 2 rfl (RV.fieldAddr rfl rfl rfl rfl rfl rfl) ?_; refine .tk 3 rfl (RV.loadB rfl rfl rfl (by repeat constructor) rfl) ?_; refine .tk 4 rfl (RV.move rfl) ?_; refine .tk 5 rfl (RV.nilCheck rfl) ?_; refine .tk 6 rfl (RV.fieldAddr rfl rfl rfl rfl rfl rfl) ?_; refine .tk 7 rfl (RV.loadB rfl rfl rfl (by repeat constructor) rfl) ?_; refine .tk 8 rfl (RV.lenS rfl rfl rfl) ?_; refine .tk 9 rfl (RV.lss rfl rfl) ?_; refine .tk 10 rfl (RV.move rfl) ?_
    first | refine ED.part (d := 13) rfl (fun hp13 => ?_) (fun hp13 => ?_) | refine ED.partN (d := 13) rfl (fun hp13 => ?_) (fun hp13 => ?_) | refine ED.partB (d := 13) rfl (fun hp13 => ?_) (fun hp13 => ?_)
    · refine .tk 11 rfl (RV.move rfl) ?_; refine .tk 12 rfl (RV.nilCheck rfl) ?_; refine .tk 13 rfl (RV.fieldAddr rfl rfl rfl rfl rfl rfl) ?_; refine .tk 14 rfl (RV.loadB rfl rfl rfl (by repeat constructor) rfl) ?_; refine .tk 15 rfl (RV.move rfl) ?_; refine .tk 16 rfl (RV.nilCheck rfl) ?_; refine .tk 17 rfl (RV.fieldAddr rfl rfl rfl rfl rfl rfl) ?_; refine .tk 18 rfl (RV.loadB rfl rfl rfl (by repeat constructor) rfl) ?_; refine .tk 19 rfl (RV.indexSN rfl rfl rfl rfl (by omega)) ?_; refine .tk 20 rfl (RV.eqlI rfl rfl) ?_; refine .tk 21 rfl (RV.pickT rfl rfl) ?_; refine .tk 22 rfl (RV.move rfl) ?_
      first | refine ED.part (d := 25) rfl (fun hp25 => ?_) (fun hp25 => ?_) | refine ED.partN (d := 25) rfl (fun hp25 => ?_) (fun hp25 => ?_) | refine ED.partB (d := 25) rfl (fun hp25 => ?_) (fun hp25 => ?_)
      · refine .tk 23 rfl (RV.move rfl) ?_; refine .tk 24 rfl (RV.nilCheck rfl) ?_; refine .tk 25 rfl (RV.fieldAddr rfl rfl rfl rfl rfl rfl) ?_; refine .tk 26 rfl (RV.loadB rfl rfl rfl (by repeat constructor) rfl) ?_; refine .tk 27 rfl (RV.add1 rfl rfl (by omega)) ?_; refine .tk 28 rfl (RV.move rfl) ?_; refine .tk 29 rfl (RV.nilCheck rfl) ?_; refine .tk 30 rfl (RV.fieldAddr rfl rfl rfl rfl rfl rfl) ?_; refine .tk 31 rfl (RV.loadB rfl rfl rfl (by repeat constructor) rfl) ?_; refine .tk 32 rfl (RV.lenS rfl rfl rfl) ?_; refine .tk 33 rfl (RV.geq rfl rfl) ?_; refine .tk 34 rfl (RV.move rfl) ?_
        first | refine ED.part (d := 37) rfl (fun hp37 => ?_) (fun hp37 => ?_) | refine ED.partN (d := 37) rfl (fun hp37 => ?_) (fun hp37 => ?_) | refine ED.partB (d := 37) rfl (fun hp37 => ?_) (fun hp37 => ?_)
        · refine .pa 35 rfl ?_; refine .pa 36 rfl ?_; refine .pa 37 rfl ?_; refine .pa 38 rfl ?_; refine .pa 39 rfl ?_; refine .pa 40 rfl ?_; refine .pa 41 rfl ?_; refine .pa 42 rfl ?_; refine .pa 43 rfl ?_; refine .pa 44 rfl ?_; refine .pa 45 rfl ?_; refine .tk 46 rfl (RV.pickT rfl rfl) ?_; refine .tk 47 rfl (RV.pickT rfl rfl) ?_; refine .tk 48 rfl (RV.assign rfl) ?_; refine .dn ?_
          exact .cx () ⟨getA rfl (congrArg Value.bool (by unfold dashM; simp_all <;> omega)), trivial⟩
        · refine .tk 35 rfl (RV.move rfl) ?_; refine .tk 36 rfl (RV.nilCheck rfl) ?_; refine .tk 37 rfl (RV.fieldAddr rfl rfl rfl rfl rfl rfl) ?_; refine .tk 38 rfl (RV.loadB rfl rfl rfl (by repeat constructor) rfl) ?_; refine .tk 39 rfl (RV.move rfl) ?_; refine .tk 40 rfl (RV.nilCheck rfl) ?_; refine .tk 41 rfl (RV.fieldAddr rfl rfl rfl rfl rfl rfl) ?_; refine .tk 42 rfl (RV.loadB rfl rfl rfl (by repeat constructor) rfl) ?_; refine .tk 43 rfl (RV.add1 rfl rfl (by omega)) ?_; refine .tk 44 rfl (RV.indexSN rfl rfl rfl rfl (by omega)) ?_; refine .tk 45 rfl (RV.neqI rfl rfl) ?_; refine .tk 46 rfl (RV.pickF rfl rfl) ?_; refine .tk 47 rfl (RV.pickT rfl rfl) ?_; refine .tk 48 rfl (RV.assign rfl) ?_; refine .dn ?_
          exact .cx () ⟨getA rfl (congrArg Value.bool (by unfold dashM; simp_all <;> omega)), trivial⟩
      · refine .pa 23 rfl ?_; refine .pa 24 rfl ?_; refine .pa 25 rfl ?_; refine .pa 26 rfl ?_; refine .pa 27 rfl ?_; refine .pa 28 rfl ?_; refine .pa 29 rfl ?_; refine .pa 30 rfl ?_; refine .pa 31 rfl ?_; refine .pa 32 rfl ?_; refine .pa 33 rfl ?_; refine .pa 34 rfl ?_; refine .pa 35 rfl ?_; refine .pa 36 rfl ?_; refine .pa 37 rfl ?_; refine .pa 38 rfl ?_; refine .pa 39 rfl ?_; refine .pa 40 rfl ?_; refine .pa 41 rfl ?_; refine .pa 42 rfl ?_; refine .pa 43 rfl ?_; refine .pa 44 rfl ?_; refine .pa 45 rfl ?_; refine .pa 46 rfl ?_; refine .tk 47 rfl (RV.pickF rfl rfl) ?_; refine .tk 48 rfl (RV.assign rfl) ?_; refine .dn ?_
        exact .cx () ⟨getA rfl (congrArg Value.bool (by unfold dashM; simp_all <;> omega)), trivial⟩
    · refine .pa 11 rfl ?_; refine .pa 12 rfl ?_; refine .pa 13 rfl ?_; refine .pa 14 rfl ?_; refine .pa 15 rfl ?_; refine .pa 16 rfl ?_; refine .pa 17 rfl ?_; refine .pa 18 rfl ?_; refine .pa 19 rfl ?_; refine .pa 20 rfl ?_; refine .tk 21 rfl (RV.pickF rfl rfl) ?_; refine .tk 22 rfl (RV.move rfl) ?_; refine .pa 23 rfl ?_; refine .pa 24 rfl ?_; refine .pa 25 rfl ?_; refine .pa 26 rfl ?_; refine .pa 27 rfl ?_; refine .pa 28 rfl ?_; refine .pa 29 rfl ?_; refine .pa 30 rfl ?_; refine .pa 31 rfl ?_; refine .pa 32 rfl ?_; refine .pa 33 rfl ?_; refine .pa 34 rfl ?_; refine .pa 35 rfl ?_; refine .pa 36 rfl ?_; refine .pa 37 rfl ?_; refine .pa 38 rfl ?_; refine .pa 39 rfl ?_; refine .pa 40 rfl ?_; refine .pa 41 rfl ?_; refine .pa 42 rfl ?_; refine .pa 43 rfl ?_; refine .pa 44 rfl ?_; refine .pa 45 rfl ?_; refine .pa 46 rfl ?_; refine .tk 47 rfl (RV.pickF rfl rfl) ?_; refine .tk 48 rfl (RV.assign rfl) ?_; refine .dn ?_
      exact .cx () ⟨getA rfl (congrArg Value.bool (by unfold dashM; simp_all <;> omega)), trivial⟩
  refine .go ?_; repeat constructor
  exact PX.ret rfl Tryz.results117 (.cons (.tmp rfl) .nil) (fun w hs => ⟨(), rfl, hs.ent (.i (by repeat constructor))⟩)
structure Sp where
  set : BS
  at_ : Nat
  e : Int
def spanT (t : List UInt8) (a : Nat) : Sp :=
  let i := itemM t a
  if i.e ≠ 0 ∨ dashM t i.at_ = false then ⟨i.set, i.at_, i.e⟩
  else if t.length ≤ i.at_ + 1 then ⟨i.set, i.at_ + 1, 6⟩
  else if i.single = false then ⟨i.set, i.at_ + 1, 7⟩
  else
    let j := itemM t (i.at_ + 1)
    if j.e ≠ 0 then ⟨i.set, j.at_, j.e⟩
    else if j.single = false then ⟨i.set, j.at_, 7⟩
    else if (spanM i.b j.b).2 = 0 ∧ dashM t j.at_ = true then ⟨(spanM i.b j.b).1, j.at_, 7⟩ else ⟨(spanM i.b j.b).1, j.at_, (spanM i.b j.b).2⟩
theorem span_at (t : List UInt8) (a : Nat) (h : a < t.length) : a ≤ (spanT t a).at_ ∧ (spanT t a).at_ ≤ t.length ∧ ((spanT t a).e = 0 → a < (spanT t a).at_) := by
  have h1 := item_at t a h
  unfold spanT
  dsimp only
  split
  · exact h1
  · rename_i hd
    have hd1 : (itemM t a).e = 0 ∧ dashM t (itemM t a).at_ = true := by
      simp only [not_or, Decidable.not_not, Bool.not_eq_false] at hd
      exact hd
    have hlt := dash_lt hd1.2
    have h2 := h1.2.2 hd1.1
    split
    · exact ⟨by simp only; omega, by simp only; omega, fun _ => by simp only; omega⟩
    · rename_i hl
      have h3 := item_at t ((itemM t a).at_ + 1) (by omega)
      split
      · exact ⟨by simp only; omega, by simp only; omega, fun _ => by simp only; omega⟩
      · split
        · exact ⟨by simp only; omega, h3.2.1, fun _ => by simp only; omega⟩
        · split
          · exact ⟨by simp only; omega, h3.2.1, fun _ => by simp only; omega⟩
          · split
            · exact ⟨by simp only; omega, h3.2.1, fun _ => by simp only; omega⟩
            · exact ⟨by simp only; omega, h3.2.1, fun _ => by simp only; omega⟩
theorem spanR_c (g : Nat) (t : List UInt8) (a : Nat) (ha : a < t.length) (ht : t.length ≤ 1073741824) (w0 : World) (B : Nat) (hG : GR w0 B) :
    MutAt Tryz.prog 101 #[Pv g 0] [RD g t a 0] (fun _ : Unit => Bs (spanT t a).set) (fun _ => [RD g t (spanT t a).at_ (spanT t a).e]) w0 B := by
  intro R w h
  replace h : Sat w0 B (RD g t a 0 :: R) w := h
  have hia := item_at t a ha
  have hic := item_c g t a ha ht w0 B hG
  have hsp : spanT t a = (let i := itemM t a
    if i.e ≠ 0 ∨ dashM t i.at_ = false then ⟨i.set, i.at_, i.e⟩
    else if t.length ≤ i.at_ + 1 then ⟨i.set, i.at_ + 1, 6⟩
    else if i.single = false then ⟨i.set, i.at_ + 1, 7⟩
    else
      let j := itemM t (i.at_ + 1)
      if j.e ≠ 0 then ⟨i.set, j.at_, j.e⟩
      else if j.single = false then ⟨i.set, j.at_, 7⟩
      else if (spanM i.b j.b).2 = 0 ∧ dashM t j.at_ = true then ⟨(spanM i.b j.b).1, j.at_, 7⟩ else ⟨(spanM i.b j.b).1, j.at_, (spanM i.b j.b).2⟩) := rfl
  obtain ⟨r, hr⟩ : ∃ r, r = spanT t a := ⟨_, rfl⟩
  rw [← hr] at hsp ⊢
  dsimp only at hsp
  generalize itemM t a = i at hia hic hsp
  obtain ⟨⟨s0, s1, s2, s3⟩, ib, ising, ia, ie⟩ := i
  dsimp only at hia hic hsp
  refine calls_of_ES TB Tryz.func101 rfl _ Tryz.ntmps101 rfl h ?_; refine .go ?_; (repeat constructor); (refine .al ?_; intro g2); refine .go ?_; (repeat constructor); refine .mv ?_; refine EL.callMw1 rfl rfl rfl ent116 rfl hic (by repeat constructor) ?_; refine .mv ?_; refine .ex ?_; refine .ex ?_; refine .ex ?_; (refine .al ?_; intro g3); refine .sa ?_; refine .as_ ?_; refine .as_ ?_; refine .go ?_; repeat constructor
  refine EL.cutX (X := Unit) (fun _ => [(0, Pv g 0), (2, Pv g2 0), (3, Pv g3 0), (4, Uv ib), (5, .bool ising), (23, .bool (!decide (ie = 0) || !dashM t ia))]) (fun _ => SB g3 ⟨s0, s1, s2, s3⟩ :: RD g t ia ie :: SB g2 zeroS :: R) ?_ (fun _ => ?_)
  · refine .go ?_; (repeat constructor); refine .mv ?_; refine .nc ?_; refine .fa ?_; refine .lb ?_; refine .ni ?_; refine .mv ?_
    first | refine EL.splitD (d := 19) rfl (fun hp19 => ?_) (fun hp19 => ?_) | refine EL.splitN (d := 19) rfl (fun hp19 => ?_) (fun hp19 => ?_) | refine EL.splitB (d := 19) rfl (fun hp19 => ?_) (fun hp19 => ?_)
    · refine .ps ?_; refine .ps ?_; refine .ps ?_; refine .pt ?_
      exact .dx () ⟨rfl, rfl, rfl, rfl, rfl, getA rfl (congrArg Value.bool (by simp_all)), trivial⟩
    · refine .mv ?_; refine EL.callMw1 rfl rfl rfl ent117 rfl (dash_c g t ia ie ht hia.2.1 _ _) (by repeat constructor) ?_; refine .nt ?_; refine .pf ?_
      exact .dx () ⟨rfl, rfl, rfl, rfl, rfl, getA rfl (congrArg Value.bool (by simp_all)), trivial⟩
  refine ES.cond rfl (fun hc => ?_) (fun hc => ?_)
  · rw [if_pos (by
      rcases Bool.or_eq_true_iff.1 hc with h1 | h1
      · exact .inl (by simpa using h1)
      · exact .inr (by simpa using h1))] at hsp
    rw [hsp]
    refine .go ?_; (repeat constructor); refine .lg ?_; refine .sa ?_; refine .go ?_; repeat constructor
    exact PX.ret rfl Tryz.results101 (.cons (.blkA rfl rfl rfl (by repeat constructor) rfl) .nil) (fun w hs => ⟨(), rfl, hs.ent (.i (by repeat constructor))⟩)
  rw [Bool.or_eq_false_iff] at hc
  have he0 : ie = 0 := by simpa using hc.1
  have hda : dashM t ia = true := by simpa using hc.2
  subst he0
  rw [if_neg (by rw [hda]; simp)] at hsp
  have hlt := dash_lt hda
  refine .go ?_; (repeat constructor); refine .mv ?_; refine .nc ?_; refine .fa ?_; refine .lb ?_; refine .a1 ?_; refine .nc ?_; refine .fa ?_; refine .sb ?_; refine .go ?_; repeat constructor
  refine ES.draw (X := Unit) (fun _ => [(0, Pv g 0), (2, Pv g2 0), (3, Pv g3 0), (4, Uv ib), (5, .bool ising), (41, .bool (decide ((t.length : Int) ≤ ((ia + 1 : Nat) : Int))))]) (fun _ => SB g3 ⟨s0, s1, s2, s3⟩ :: RD g t (ia + 1) 0 :: SB g2 zeroS :: R) (SB g3 ⟨s0, s1, s2, s3⟩ :: RD g t (ia + 1) 0 :: SB g2 zeroS :: R) mixed (.i (by repeat constructor)) ?_ (fun _ => ?_)
  · refine .tk 0 rfl (RV.move rfl) ?_; refine .tk 1 rfl (RV.nilCheck rfl) ?_; refine .tk 2 rfl (RV.fieldAddr rfl rfl rfl rfl rfl rfl) ?_; refine .tk 3 rfl (RV.loadB rfl rfl rfl (by repeat constructor) rfl) ?_; refine .tk 4 rfl (RV.move rfl) ?_; refine .tk 5 rfl (RV.nilCheck rfl) ?_; refine .tk 6 rfl (RV.fieldAddr rfl rfl rfl rfl rfl rfl) ?_; refine .tk 7 rfl (RV.loadB rfl rfl rfl (by repeat constructor) rfl) ?_; refine .tk 8 rfl (RV.lenS rfl rfl rfl) ?_; refine .tk 9 rfl (RV.geq rfl rfl) ?_; refine .dn ?_
    exact .cy ()
  refine ES.condD rfl (fun hge => ?_) (fun hlt2 => ?_)
  · rw [if_pos (by omega)] at hsp
    rw [hsp]
    refine .go ?_; (repeat constructor); refine .mv ?_; refine .nc ?_; refine .fa ?_; refine .sb ?_; refine .go ?_; (repeat constructor); refine .lg ?_; refine .sa ?_; refine .go ?_; repeat constructor
    exact PX.ret rfl Tryz.results101 (.cons (.blkA rfl rfl rfl (by repeat constructor) rfl) .nil) (fun w hs => ⟨(), rfl, hs.ent (.i (by repeat constructor))⟩)
  rw [if_neg (by omega)] at hsp
  refine .go ?_; (repeat constructor); refine .mv ?_; refine .nt ?_; refine .go ?_; repeat constructor
  refine ES.cond rfl (fun hs1 => ?_) (fun hs1 => ?_)
  · rw [if_pos (by simpa using hs1)] at hsp
    rw [hsp]
    refine .go ?_; (repeat constructor); refine .mv ?_; refine .nc ?_; refine .fa ?_; refine .sb ?_; refine .go ?_; (repeat constructor); refine .lg ?_; refine .sa ?_; refine .go ?_; repeat constructor
    exact PX.ret rfl Tryz.results101 (.cons (.blkA rfl rfl rfl (by repeat constructor) rfl) .nil) (fun w hs => ⟨(), rfl, hs.ent (.i (by repeat constructor))⟩)
  rw [if_neg (by simpa using hs1)] at hsp
  have hja := item_at t (ia + 1) (by omega)
  have hjc := item_c g t (ia + 1) (by omega) ht w0 B hG
  generalize itemM t (ia + 1) = j at hja hjc hsp
  obtain ⟨⟨u0, u1, u2, u3⟩, jb, jsing, ja, je⟩ := j
  dsimp only at hja hjc hsp
  refine .go ?_; (repeat constructor); refine .mv ?_; refine EL.callMw1 rfl rfl rfl ent116 rfl hjc (by repeat constructor) ?_; refine .mv ?_; refine .ex ?_; refine .ex ?_; refine .ex ?_; (refine .al ?_; intro g6); refine .sa ?_; refine .as_ ?_; refine .as_ ?_; refine .go ?_; (repeat constructor); refine .mv ?_; refine .nc ?_; refine .fa ?_; refine .lb ?_; refine .ni ?_; refine .go ?_; repeat constructor
  refine ES.condN rfl (fun hne => ?_) (fun heq => ?_)
  · rw [if_pos hne] at hsp
    rw [hsp]
    refine .go ?_; (repeat constructor); refine .lg ?_; refine .sa ?_; refine .go ?_; repeat constructor
    exact PX.ret rfl Tryz.results101 (.cons (.blkA rfl rfl rfl (by repeat constructor) rfl) .nil) (fun w hs => ⟨(), rfl, hs.ent (.i (by repeat constructor))⟩)
  rw [if_neg (by simpa using heq)] at hsp
  subst heq
  refine .go ?_; (repeat constructor); refine .mv ?_; refine .nt ?_; refine .go ?_; repeat constructor
  refine ES.cond rfl (fun hs2 => ?_) (fun hs2 => ?_)
  · rw [if_pos (by simpa using hs2)] at hsp
    rw [hsp]
    refine .go ?_; (repeat constructor); refine .mv ?_; refine .nc ?_; refine .fa ?_; refine .sb ?_; refine .go ?_; (repeat constructor); refine .lg ?_; refine .sa ?_; refine .go ?_; repeat constructor
    exact PX.ret rfl Tryz.results101 (.cons (.blkA rfl rfl rfl (by repeat constructor) rfl) .nil) (fun w hs => ⟨(), rfl, hs.ent (.i (by repeat constructor))⟩)
  rw [if_neg (by simpa using hs2)] at hsp
  have hspc := span_c ib jb
  obtain ⟨q, hq⟩ : ∃ q, q = spanM ib jb := ⟨_, rfl⟩
  rw [← hq] at hspc hsp
  obtain ⟨⟨v0, v1, v2, v3⟩, qe⟩ := q
  dsimp only at hspc hsp
  refine .go ?_; (repeat constructor); refine .mv ?_; refine .mv ?_; refine .mv ?_; refine EL.callP rfl rfl rfl ent118 rfl hspc ?_; refine .mv ?_; refine .ex ?_; refine .ex ?_; refine .sa ?_; refine .nc ?_; refine .fa ?_; refine .sb ?_; refine .go ?_; repeat constructor
  refine EL.cutX (X := Unit) (fun _ => [(0, Pv g 0), (2, Pv g2 0), (3, Pv g3 0), (87, .bool (decide (qe = 0) && dashM t ja))]) (fun _ => SB g3 ⟨v0, v1, v2, v3⟩ :: RD g t ja qe :: SB g2 zeroS :: R) ?_ (fun _ => ?_)
  · refine .go ?_; (repeat constructor); refine .mv ?_; refine .nc ?_; refine .fa ?_; refine .lb ?_; refine .ei ?_; refine .mv ?_
    first | refine EL.splitD (d := 84) rfl (fun hp84 => ?_) (fun hp84 => ?_) | refine EL.splitN (d := 84) rfl (fun hp84 => ?_) (fun hp84 => ?_) | refine EL.splitB (d := 84) rfl (fun hp84 => ?_) (fun hp84 => ?_)
    · refine .mv ?_; refine EL.callMw1 rfl rfl rfl ent117 rfl (dash_c g t ja qe ht hja.2.1 _ _) (by repeat constructor) ?_; refine .pt ?_
      exact .dx () ⟨rfl, rfl, rfl, getA rfl (congrArg Value.bool (by simp_all)), trivial⟩
    · refine .ps ?_; refine .ps ?_; refine .pf ?_
      exact .dx () ⟨rfl, rfl, rfl, getA rfl (congrArg Value.bool (by simp_all)), trivial⟩
  refine ES.cond rfl (fun hb => ?_) (fun hb => ?_)
  · rw [if_pos (by simpa using hb)] at hsp
    rw [hsp]
    refine .go ?_; (repeat constructor); refine .mv ?_; refine .nc ?_; refine .fa ?_; refine .sb ?_; refine .go ?_; (repeat constructor); refine .lg ?_; refine .sa ?_; refine .go ?_; repeat constructor
    exact PX.ret rfl Tryz.results101 (.cons (.blkA rfl rfl rfl (by repeat constructor) rfl) .nil) (fun w hs => ⟨(), rfl, hs.ent (.i (by repeat constructor))⟩)
  · rw [if_neg (by intro hh; rw [hh.1, hh.2] at hb; simp at hb)] at hsp
    rw [hsp]
    refine .go ?_; (repeat constructor); refine .lg ?_; refine .sa ?_; refine .go ?_; repeat constructor
    exact PX.ret rfl Tryz.results101 (.cons (.blkA rfl rfl rfl (by repeat constructor) rfl) .nil) (fun w hs => ⟨(), rfl, hs.ent (.i (by repeat constructor))⟩)
def brBad (t : List UInt8) (a : Nat) : Bool := decide ((t.length : Int) ≤ (a : Int)) || !decide (((t.getD a 0).toNat : Int) = 91)
def brNot (t : List UInt8) (a : Nat) : Bool := decide (((a + 1 : Nat) : Int) < (t.length : Int)) && decide (((t.getD (a + 1) 0).toNat : Int) = 94)
def brEnd (t : List UInt8) (a : Nat) (first : Bool) : Bool := decide (((t.getD a 0).toNat : Int) = 93) && !first
theorem brBad_false {t : List UInt8} {a : Nat} (h : brBad t a = false) : a < t.length ∧ (t.getD a 0).toNat = 91 := by
  unfold brBad at h
  simp only [Bool.or_eq_false_iff, Bool.not_eq_false', decide_eq_true_eq, decide_eq_false_iff_not] at h
  exact ⟨by omega, by omega⟩
theorem brNot_true {t : List UInt8} {a : Nat} (h : brNot t a = true) : a + 1 < t.length := by
  unfold brNot at h
  simp only [Bool.and_eq_true, decide_eq_true_eq] at h
  omega
def brGo (t : List UInt8) : Nat → Nat → Bool → BS → Sp
  | 0, _, _, _ => ⟨zeroS, 0, 6⟩
  | n + 1, a, first, s =>
    if t.length ≤ a then ⟨zeroS, 0, 6⟩
    else if brEnd t a first = true then ⟨s, a + 1, 0⟩
    else if (spanT t a).e ≠ 0 then ⟨zeroS, 0, (spanT t a).e⟩
    else brGo t n (spanT t a).at_ false (orS s (spanT t a).set)
def brFrom (t : List UInt8) (a : Nat) : Sp := brGo t (t.length + 1 - a) a true zeroS
def brackM (t : List UInt8) (a : Nat) : Sp :=
  if brBad t a = true then ⟨zeroS, 0, 1⟩
  else if brNot t a = true then ⟨if (brFrom t (a + 2)).e = 0 then notS (brFrom t (a + 2)).set else (brFrom t (a + 2)).set, (brFrom t (a + 2)).at_, (brFrom t (a + 2)).e⟩
  else brFrom t (a + 1)
def brOut (nt : Bool) (r : Sp) : Sp := if nt = true then ⟨if r.e = 0 then notS r.set else r.set, r.at_, r.e⟩ else r
theorem brOut_bad (nt : Bool) (e : Int) (h : e ≠ 0) : brOut nt ⟨zeroS, 0, e⟩ = ⟨zeroS, 0, e⟩ := by
  unfold brOut
  split
  · simp [h]
  · rfl
theorem brGo_next (t : List UInt8) : ∀ (n a : Nat) (f : Bool) (s : BS), a ≤ t.length → (brGo t n a f s).e = 0 → a < (brGo t n a f s).at_ ∧ (brGo t n a f s).at_ ≤ t.length
  | 0, _, _, _, _, h => by simp [brGo] at h
  | n + 1, a, f, s, ha, h => by
    rw [brGo] at h ⊢
    split at h
    · simp at h
    · rename_i h1
      rw [if_neg h1]
      split at h
      · rename_i h2
        rw [if_pos h2]
        simp only
        omega
      · rename_i h2
        rw [if_neg h2]
        split at h
        · rename_i h3; exact absurd h h3
        · rename_i h3
          rw [if_neg h3]
          have hs := span_at t a (by omega)
          have := brGo_next t n _ _ _ hs.2.1 h
          have := hs.2.2 (by simpa using h3)
          omega
theorem brack_next (t : List UInt8) (a : Nat) (h : (brackM t a).e = 0) : a + 1 < (brackM t a).at_ ∧ (brackM t a).at_ ≤ t.length := by
  unfold brackM at h ⊢
  split at h
  · simp at h
  · rename_i h1
    have hb := brBad_false (by simpa using h1)
    rw [if_neg h1]
    split at h
    · rename_i h2
      have := brNot_true h2
      rw [if_pos h2]
      have := brGo_next t _ (a + 2) true zeroS (by omega) h
      exact ⟨by have := this.1; simp only [brFrom]; omega, this.2⟩
    · rename_i h2
      rw [if_neg h2]
      have := brGo_next t _ (a + 1) true zeroS (by omega) h
      exact this
def BrI (t : List UInt8) (res : Sp) (a : Nat) (first : Bool) (s : BS) (e : Int) : Prop :=
  (e = 0 ∧ a ≤ t.length + 1 ∧ ∃ n, t.length + 1 ≤ n + a ∧ brGo t n a first s = res) ∨ (e ≠ 0 ∧ res = ⟨zeroS, 0, e⟩)
theorem brParse_c (t : List UInt8) (a : Nat) (ht : t.length ≤ 1073741824) (ha : a ≤ 1073741824) (w : World) (hG : GR w w.heap.size) :
    Pure Tryz.prog 81 #[Sv t, Iv (a : Nat)] (fun _ : Unit => .tuple #[Bs (brackM t a).set, Iv ((brackM t a).at_ : Nat), Iv (brackM t a).e]) (fun _ => []) w := by
  refine calls_of_ES TB Tryz.func81 rfl _ Tryz.ntmps81 rfl (Sat.start w) ?_; refine .go ?_; (repeat constructor); (refine .al ?_; intro g4); refine .as_ ?_; refine .as_ ?_; refine .go ?_; repeat constructor
  refine EL.cutX (X := Unit) (fun _ => [(0, Sv t), (1, Iv (a : Nat)), (4, Pv g4 0), (24, .bool (brBad t a))]) (fun _ => [SB g4 zeroS]) ?_ (fun _ => ?_)
  · refine .go ?_; (repeat constructor); refine .mv ?_; refine .ls ?_; refine .mv ?_; refine EL.rew (d := 13) (v' := .bool false) rfl (congrArg Value.bool (decide_eq_false (by omega))) ?_; refine .mv ?_; refine .mv ?_; refine .lS ?_; refine .gq ?_; refine .pf ?_; refine .mv ?_
    first | refine EL.splitD (d := 19) rfl (fun hp19 => ?_) (fun hp19 => ?_) | refine EL.splitN (d := 19) rfl (fun hp19 => ?_) (fun hp19 => ?_) | refine EL.splitB (d := 19) rfl (fun hp19 => ?_) (fun hp19 => ?_)
    · refine .ps ?_; refine .ps ?_; refine .ps ?_; refine .ps ?_; refine .pt ?_
      exact .dx () ⟨rfl, rfl, rfl, getA rfl (congrArg Value.bool (by unfold brBad; simp_all <;> omega)), trivial⟩
    · refine .mv ?_; refine .mv ?_; refine .iS ?_; refine .ni ?_; refine .pf ?_
      exact .dx () ⟨rfl, rfl, rfl, getA rfl (congrArg Value.bool (by unfold brBad; simp_all <;> omega)), trivial⟩
  refine ES.cond rfl (fun hbad => ?_) (fun hok => ?_)
  · have hm : brackM t a = ⟨zeroS, 0, 1⟩ := by unfold brackM; rw [if_pos hbad]
    rw [hm]
    refine .go ?_; (repeat constructor); refine EL.buildZA rfl rfl rfl rfl rfl ?_; refine .sa ?_; refine .as_ ?_; refine .as_ ?_; refine .go ?_; repeat constructor
    exact PX.ret rfl Tryz.results81 (.cons (.blkA rfl rfl rfl (by repeat constructor) rfl) (.cons (.tmp rfl) (.cons (.tmp rfl) .nil))) (fun w hs => ⟨(), rfl, hs.ent (.i (by repeat constructor))⟩)
  have hok2 := brBad_false hok
  obtain ⟨nt, hnt⟩ : ∃ nt, nt = brNot t a := ⟨_, rfl⟩
  refine .go ?_; (repeat constructor); refine .mv ?_; refine .mv ?_; refine .a1 ?_; refine EL.buildS #[Sv t, Iv ((a + 1 : Nat) : Int), Iv 0] rfl rfl rfl rfl rfl rfl rfl ?_; (refine .bx ?_; intro g30); refine .as_ ?_; refine .go ?_; repeat constructor
  refine EL.cutX (X := Unit) (fun _ => [(0, Sv t), (4, Pv g4 0), (7, Pv g30 0), (8, .bool nt)]) (fun _ => [RD g30 t (a + 1) 0, SB g4 zeroS]) ?_ (fun _ => ?_)
  · refine .go ?_; (repeat constructor); refine .mv ?_; refine .nc ?_; refine .fa ?_; refine .lb ?_; refine .mv ?_; refine .lS ?_; refine .ls ?_; refine .mv ?_
    first | refine EL.splitD (d := 38) rfl (fun hp38 => ?_) (fun hp38 => ?_) | refine EL.splitN (d := 38) rfl (fun hp38 => ?_) (fun hp38 => ?_) | refine EL.splitB (d := 38) rfl (fun hp38 => ?_) (fun hp38 => ?_)
    · refine .mv ?_; refine .mv ?_; refine .nc ?_; refine .fa ?_; refine .lb ?_; refine .iS ?_; refine .ei ?_; refine .pt ?_; refine .as_ ?_
      exact .dx () ⟨rfl, rfl, rfl, getA rfl (congrArg Value.bool (by rw [hnt]; unfold brNot; simp_all <;> omega)), trivial⟩
    · refine .ps ?_; refine .ps ?_; refine .ps ?_; refine .ps ?_; refine .ps ?_; refine .ps ?_; refine .ps ?_; refine .pf ?_; refine .as_ ?_
      exact .dx () ⟨rfl, rfl, rfl, getA rfl (congrArg Value.bool (by rw [hnt]; unfold brNot; simp_all <;> omega)), trivial⟩
  refine .go ?_; (repeat constructor); refine .mv ?_; refine .go ?_; repeat constructor
  refine ES.cutC (X := Unit) (fun _ => [(0, Sv t), (4, Pv g4 0), (7, Pv g30 0), (8, .bool nt)]) (fun _ => [RD g30 t (if nt = true then a + 2 else a + 1) 0, SB g4 zeroS]) ?_ (fun _ => ?_)
  · refine ES.cond rfl (fun hn => ?_) (fun hn => ?_)
    · rw [if_pos hn]
      refine .go ?_; (repeat constructor); refine .mv ?_; refine .nc ?_; refine .fa ?_; refine .lb ?_; refine .a1 ?_; refine .nc ?_; refine .fa ?_; refine .sb ?_; refine .go ?_; repeat constructor
      exact .cy ()
    · rw [if_neg (by rw [hn]; decide)]
      refine .go ?_; repeat constructor
      exact .cy ()
  have hm : brackM t a = brOut nt (brFrom t (if nt = true then a + 2 else a + 1)) := by
    unfold brackM brOut
    rw [if_neg (by rw [hok]; decide), ← hnt]
    split <;> rfl
  rw [hm]
  have hfrom : (if nt = true then a + 2 else a + 1) ≤ t.length := by
    split
    · rename_i hn
      rw [hnt] at hn
      have := brNot_true hn
      omega
    · omega
  generalize (if nt = true then a + 2 else a + 1) = from_ at hfrom ⊢
  obtain ⟨res, hres⟩ : ∃ res, res = brFrom t from_ := ⟨_, rfl⟩
  rw [← hres]
  refine .go ?_; (repeat constructor); (refine .al ?_; intro g9); refine .go ?_; (repeat constructor); refine .as_ ?_; refine .go ?_; repeat constructor
  refine ES.loop (σ := Nat × Bool × BS × Int) (fun (a, first, s, e) => BrI t res a first s e) (fun (a, first, s, e) => [(0, Sv t), (4, Pv g4 0), (7, Pv g30 0), (8, .bool nt), (9, Pv g9 0), (10, .bool first)])
    (fun (a, first, s, e) => [RD g30 t a e, SB g9 s, SB g4 zeroS]) (fun (a, first, s, e) => if e = 0 then t.length + 2 - a else 0) (from_, true, zeroS, 0) (.inl ⟨rfl, by omega, t.length + 1 - from_, by omega, by rw [hres]; rfl⟩) ⟨rfl, rfl, rfl, rfl, rfl, rfl, trivial⟩ (.i (by repeat constructor)) ?_
  rintro ⟨a, first, s, e⟩ hI
  dsimp only at hI ⊢
  refine .go ?_; (repeat constructor); refine .mv ?_; refine .nc ?_; refine .fa ?_; refine .lb ?_; refine .ei ?_; refine .go ?_; repeat constructor
  refine ES.condD rfl (fun he => ?_) (fun hne => ?_)
  · subst he
    obtain ⟨hale, n, hn, hgo⟩ : a ≤ t.length + 1 ∧ ∃ n, t.length + 1 ≤ n + a ∧ brGo t n a first s = res := by
      rcases hI with ⟨_, h⟩ | ⟨hh, _⟩
      · exact h
      · exact absurd rfl hh
    refine .go ?_; (repeat constructor); refine .mv ?_; refine .nc ?_; refine .fa ?_; refine .lb ?_; refine .mv ?_; refine .lS ?_; refine .gq ?_; refine .go ?_; repeat constructor
    refine ES.condD rfl (fun hge => ?_) (fun hlt => ?_)
    · have hr : res = ⟨zeroS, 0, 6⟩ := by
        rw [← hgo]
        cases n with
        | zero => rfl
        | succ n => rw [brGo, if_pos (by omega)]
      rw [hr, brOut_bad nt 6 (by decide)]
      refine .go ?_; (repeat constructor); refine .mv ?_; refine .nc ?_; refine .fa ?_; refine .sb ?_; refine .go ?_; repeat constructor
      refine ES.draw (X := Unit) (fun _ => [(4, Pv g4 0), (5, Iv 0), (6, Iv 6)]) (fun _ => [SB g4 zeroS]) [RD g30 t a 6] mixed (.i (by repeat constructor)) ?_ (fun _ => ?_)
      · refine .tk 1 rfl (RV.move rfl) ?_; refine .tk 2 rfl (RV.nilCheck rfl) ?_; refine .tk 3 rfl (RV.fieldAddr rfl rfl rfl rfl rfl rfl) ?_; refine .tk 4 rfl (RV.loadB rfl rfl rfl (by repeat constructor) rfl) ?_; refine .ld 0 ?_; refine EL.buildZA rfl rfl rfl rfl rfl ?_; refine .nx ?_; refine .ld 5 ?_; refine .sa ?_; refine .nx ?_; refine .tk 6 rfl (RV.assign rfl) ?_; refine .tk 7 rfl (RV.assign rfl) ?_; refine .dn ?_
        exact .cy ()
      refine .go ?_; repeat constructor
      exact PX.ret rfl Tryz.results81 (.cons (.blkA rfl rfl rfl (by repeat constructor) rfl) (.cons (.tmp rfl) (.cons (.tmp rfl) .nil))) (fun w hs => ⟨(), rfl, hs.ent (.i (by repeat constructor))⟩)
    · have hlt' : a < t.length := by omega
      obtain ⟨m, rfl⟩ : ∃ m, n = m + 1 := ⟨n - 1, by omega⟩
      rw [brGo, if_neg (by omega)] at hgo
      have hsa := span_at t a hlt'
      have hsc := spanR_c g30 t a hlt' ht _ _ hG
      refine .go ?_; repeat constructor
      refine EL.cutX (X := Unit) (fun _ => [(0, Sv t), (4, Pv g4 0), (7, Pv g30 0), (8, .bool nt), (9, Pv g9 0), (80, .bool (brEnd t a first))]) (fun _ => [RD g30 t a 0, SB g9 s, SB g4 zeroS]) ?_ (fun _ => ?_)
      · refine .go ?_; (repeat constructor); refine .mv ?_; refine .mv ?_; refine .nc ?_; refine .fa ?_; refine .lb ?_; refine .iS ?_; refine .ei ?_; refine .mv ?_
        first | refine EL.splitD (d := 77) rfl (fun hp77 => ?_) (fun hp77 => ?_) | refine EL.splitN (d := 77) rfl (fun hp77 => ?_) (fun hp77 => ?_) | refine EL.splitB (d := 77) rfl (fun hp77 => ?_) (fun hp77 => ?_)
        · refine .mv ?_; refine .nt ?_; refine .pt ?_
          exact .dx () ⟨rfl, rfl, rfl, rfl, rfl, getA rfl (congrArg Value.bool (by unfold brEnd; simp_all <;> omega)), trivial⟩
        · refine .ps ?_; refine .ps ?_; refine .pf ?_
          exact .dx () ⟨rfl, rfl, rfl, rfl, rfl, getA rfl (congrArg Value.bool (by unfold brEnd; simp_all <;> omega)), trivial⟩
      refine ES.cond rfl (fun hend => ?_) (fun hnend => ?_)
      · rw [if_pos hend] at hgo
        rw [← hgo]
        refine .go ?_; (repeat constructor); refine .mv ?_; refine .go ?_; repeat constructor
        cases nt
        · refine ES.condF rfl ?_; refine .g0 ?_; repeat constructor
          refine ES.draw (X := Unit) (fun _ => [(4, Pv g4 0), (5, Iv ((a + 1 : Nat) : Int)), (6, Iv 0)]) (fun _ => [SB g4 s]) [RD g30 t a 0, SB g9 s] mixed (.i (by repeat constructor)) ?_ (fun _ => ?_)
          · refine .tk 0 rfl (RV.loadAggB rfl rfl rfl (by repeat constructor) rfl) ?_; refine .tk 1 rfl (RV.move rfl) ?_; refine .tk 2 rfl (RV.nilCheck rfl) ?_; refine .tk 3 rfl (RV.fieldAddr rfl rfl rfl rfl rfl rfl) ?_; refine .tk 4 rfl (RV.loadB rfl rfl rfl (by repeat constructor) rfl) ?_; refine .tk 5 rfl (RV.add1 rfl rfl (by omega)) ?_; refine .ld 6 ?_; refine .sa ?_; refine .nx ?_; refine .tk 7 rfl (RV.assign rfl) ?_; refine .tk 8 rfl (RV.assign rfl) ?_; refine .dn ?_
            exact .cy ()
          refine .go ?_; repeat constructor
          exact PX.ret rfl Tryz.results81 (.cons (.blkA rfl rfl rfl (by repeat constructor) rfl) (.cons (.tmp rfl) (.cons (.tmp rfl) .nil))) (fun w hs => ⟨(), rfl, hs.ent (.i (by repeat constructor))⟩)
        · refine ES.condT rfl ?_; refine .go ?_; (repeat constructor); refine .lg ?_; refine EL.callP rfl rfl rfl ent65 rfl (not_c s) ?_; refine .sa ?_; refine .go ?_; repeat constructor
          refine ES.draw (X := Unit) (fun _ => [(4, Pv g4 0), (5, Iv ((a + 1 : Nat) : Int)), (6, Iv 0)]) (fun _ => [SB g4 (notS s)]) [RD g30 t a 0, SB g9 (notS s)] mixed (.i (by repeat constructor)) ?_ (fun _ => ?_)
          · refine .tk 0 rfl (RV.loadAggB rfl rfl rfl (by repeat constructor) rfl) ?_; refine .tk 1 rfl (RV.move rfl) ?_; refine .tk 2 rfl (RV.nilCheck rfl) ?_; refine .tk 3 rfl (RV.fieldAddr rfl rfl rfl rfl rfl rfl) ?_; refine .tk 4 rfl (RV.loadB rfl rfl rfl (by repeat constructor) rfl) ?_; refine .tk 5 rfl (RV.add1 rfl rfl (by omega)) ?_; refine .ld 6 ?_; refine .sa ?_; refine .nx ?_; refine .tk 7 rfl (RV.assign rfl) ?_; refine .tk 8 rfl (RV.assign rfl) ?_; refine .dn ?_
            exact .cy ()
          refine .go ?_; repeat constructor
          exact PX.ret rfl Tryz.results81 (.cons (.blkA rfl rfl rfl (by repeat constructor) rfl) (.cons (.tmp rfl) (.cons (.tmp rfl) .nil))) (fun w hs => ⟨(), rfl, hs.ent (.i (by repeat constructor))⟩)
      · rw [if_neg (by rw [hnend]; decide)] at hgo
        refine .g0 ?_; repeat constructor
        refine ES.draw (X := Unit) (fun _ => [(0, Sv t), (4, Pv g4 0), (7, Pv g30 0), (8, .bool nt), (9, Pv g9 0)]) (fun _ => [RD g30 t (spanT t a).at_ (spanT t a).e, SB g9 (orS s (spanT t a).set), SB g4 zeroS]) [SB g9 s, SB g4 zeroS] mixed (.i (by repeat constructor)) ?_ (fun _ => ?_)
        · refine .tk 0 rfl (RV.loadAggB rfl rfl rfl (by repeat constructor) rfl) ?_; refine .tk 1 rfl (RV.move rfl) ?_; refine .ld 2 ?_; refine EL.callMw1 rfl rfl rfl ent101 rfl hsc (by repeat constructor) ?_; refine .nx ?_; refine .ld 3 ?_; refine EL.callP rfl rfl rfl ent100 rfl (or_c s (spanT t a).set) ?_; refine .nx ?_; refine ED.last 4 rfl (by decide +kernel) (by decide +kernel) (by decide +kernel) ?_; refine .sa ?_; refine EL.endQ ?_
          exact .cy ()
        refine .go ?_; (repeat constructor); refine .as_ ?_; refine .go ?_; (repeat constructor); refine .ly ((spanT t a).at_, false, orS s (spanT t a).set, (spanT t a).e) ?_ ?_
        · by_cases he : (spanT t a).e = 0
          · rw [if_neg (by simpa using he)] at hgo
            have := hsa.2.2 he
            exact .inl ⟨he, by omega, m, by omega, hgo⟩
          · rw [if_pos he] at hgo
            exact .inr ⟨he, hgo.symm⟩
        · simp only [if_true]
          split
          · rename_i he
            have := hsa.2.2 he
            omega
          · omega
  · rcases hI with ⟨hh, _⟩ | ⟨_, hr⟩
    · exact absurd hh hne
    rw [hr, brOut_bad nt e hne]
    refine .g0 ?_; repeat constructor
    refine ES.draw (X := Unit) (fun _ => [(4, Pv g4 0), (5, Iv 0), (6, Iv e)]) (fun _ => [SB g4 zeroS]) [RD g30 t a e] mixed (.i (by repeat constructor)) ?_ (fun _ => ?_)
    · refine .tk 1 rfl (RV.move rfl) ?_; refine .tk 2 rfl (RV.nilCheck rfl) ?_; refine .tk 3 rfl (RV.fieldAddr rfl rfl rfl rfl rfl rfl) ?_; refine .tk 4 rfl (RV.loadB rfl rfl rfl (by repeat constructor) rfl) ?_; refine .ld 0 ?_; refine EL.buildZA rfl rfl rfl rfl rfl ?_; refine .nx ?_; refine .ld 5 ?_; refine .sa ?_; refine .nx ?_; refine .tk 6 rfl (RV.assign rfl) ?_; refine .tk 7 rfl (RV.assign rfl) ?_; refine .dn ?_
      exact .cy ()
    refine .go ?_; repeat constructor
    exact PX.ret rfl Tryz.results81 (.cons (.blkA rfl rfl rfl (by repeat constructor) rfl) (.cons (.tmp rfl) (.cons (.tmp rfl) .nil))) (fun w hs => ⟨(), rfl, hs.ent (.i (by repeat constructor))⟩)
inductive RE where
  | cat (ks : List RE)
  | byte (s : BS)
  | bol
  | eol
  | group (n : Nat) (k : RE)
  | rep (lo : Nat) (hi : Int) (k : RE)
  | back (n : Nat)
deriving Inhabited
def RE.kind : RE → Nat
  | .cat _ => 0
  | .byte _ => 1
  | .bol => 2
  | .eol => 3
  | .group .. => 4
  | .rep .. => 5
  | .back _ => 6
def RE.set : RE → BS
  | .byte s => s
  | _ => zeroS
def RE.lo : RE → Nat
  | .rep lo _ _ => lo
  | _ => 0
def RE.hi : RE → Int
  | .rep _ hi _ => hi
  | _ => 0
def RE.num : RE → Nat
  | .group n _ => n
  | .back n => n
  | _ => 0
def RE.kids : RE → List RE
  | .cat ks => ks
  | .group _ k => [k]
  | .rep _ _ k => [k]
  | _ => []
structure Tok where
  kind : Nat
  at_ : Nat
  set : BS
  lo : Int
  hi : Int
  e : Int
def badT (a : Nat) (e : Int) : Tok := ⟨7, a, zeroS, 0, 0, e⟩
def byteT (a : Nat) (s : BS) : Tok := ⟨0, a, s, 0, 0, 0⟩
def oneT (a : Nat) (b : UInt8) : Tok := byteT a (ofS [b])
def isDig (b : UInt8) : Bool := decide (48 ≤ b.toNat ∧ b.toNat ≤ 57)
def numGo (t : List UInt8) : Nat → Nat → Nat → Nat × Nat
  | 0, n, a => (n, a)
  | k + 1, n, a => if a < t.length ∧ isDig (t.getD a 0) = true then numGo t k (min (10 * n + ((t.getD a 0).toNat - 48)) 256) (a + 1) else (n, a)
def numM (t : List UInt8) (a : Nat) : Int × Nat :=
  let r := numGo t (t.length - a) 0 a
  (if r.2 = a then -1 else (r.1 : Int), r.2)
def ivM (t : List UInt8) (a : Nat) : Option (Nat × Int × Nat) :=
  let l := numM t a
  let h := if l.2 < t.length ∧ t.getD l.2 0 = 44 then numM t (l.2 + 1) else l
  if l.1 < 0 ∨ 255 < l.1 ∨ 255 < h.1 ∨ (0 ≤ h.1 ∧ h.1 < l.1) then none
  else if t.length < h.2 + 2 ∨ (t.drop h.2).take 2 ≠ [92, 125] then none
  else some (l.1.toNat, h.1, h.2 + 2)
def isAln (b : UInt8) : Bool := isDig b || decide (97 ≤ (b ||| 32).toNat ∧ (b ||| 32).toNat ≤ 122)
def escT (t : List UInt8) (a : Nat) (begin_ : Bool) : Tok × Nat :=
  if a + 1 = t.length then (badT a 6, a)
  else
    let b := t.getD (a + 1) 0
    if b.toNat = 40 then (⟨3, a, zeroS, 0, 0, 0⟩, a + 2)
    else if b.toNat = 41 then (⟨4, a, zeroS, 0, 0, 0⟩, a + 2)
    else if b.toNat = 123 then
      match ivM t (a + 2) with
      | none => (badT a 9, a)
      | some (lo, hi, n) => if begin_ = true then (badT a 9, a) else (⟨5, a, zeroS, (lo : Int), hi, 0⟩, n)
    else if b.toNat = 125 then (badT a 9, a)
    else if b.toNat = 110 then (oneT a 10, a + 2)
    else if 49 ≤ b.toNat ∧ b.toNat ≤ 57 then (⟨6, a, zeroS, ((b.toNat - 48 : Nat) : Int), 0, 0⟩, a + 2)
    else if isAln b = true then (badT a 12, a)
    else (oneT a b, a + 2)
def eolM (t : List UInt8) (a : Nat) : Bool := decide (a + 1 = t.length) || (decide (a + 2 < t.length) && decide ((t.drop (a + 1)).take 2 = [92, 41]))
def readT (t : List UInt8) (a : Nat) (first begin_ : Bool) : Tok × Nat :=
  let b := t.getD a 0
  if b.toNat = 92 then escT t a begin_
  else if b.toNat = 91 then (if (brackM t a).e ≠ 0 then (badT a (brackM t a).e, a) else (byteT a (brackM t a).set, (brackM t a).at_))
  else if b.toNat = 46 then (byteT a (notS zeroS), a + 1)
  else if b.toNat = 42 ∧ begin_ = false then (⟨5, a, zeroS, 0, -1, 0⟩, a + 1)
  else if b.toNat = 94 ∧ first = true then (⟨1, a, zeroS, 0, 0, 0⟩, a + 1)
  else if b.toNat = 36 ∧ eolM t a = true then (⟨2, a, zeroS, 0, 0, 0⟩, a + 1)
  else (oneT a b, a + 1)
def toksGo (t : List UInt8) : Nat → Nat → Bool → Bool → List Tok
  | 0, _, _, _ => []
  | n + 1, a, first, begin_ =>
    if t.length ≤ a then []
    else
      let r := readT t a first begin_
      if r.1.kind = 7 then [r.1] else r.1 :: toksGo t n r.2 (decide (r.1.kind = 3)) (decide (r.1.kind = 3) || decide (r.1.kind = 1))
def toksM (t : List UInt8) : List Tok := toksGo t t.length 0 true true
structure Frame where
  kids : List RE
  sizes : List Nat
  group : Nat
  at_ : Nat
structure PS where
  top : Frame
  rest : List Frame
  groups : Nat
  shut : List Bool
  size : Nat
def Frame.put (f : Frame) (r : RE) (n : Nat) : Frame := { f with kids := f.kids ++ [r], sizes := f.sizes ++ [n] }
def growE (n : Nat) : Int := if 256 < n then 13 else 0
def timesM (lo : Nat) (hi : Int) : Nat := if hi < 0 then max lo 1 else hi.toNat
def takeM (p : PS) (k : Tok) : PS × Int :=
  match k.kind with
  | 0 => ({ p with top := p.top.put (.byte k.set) 1, size := p.size + 1 }, growE (p.size + 1))
  | 1 => ({ p with top := p.top.put .bol 0 }, 0)
  | 2 => ({ p with top := p.top.put .eol 0 }, 0)
  | 3 => if p.groups = 9 then (p, 4) else ({ p with top := ⟨[], [], p.groups + 1, k.at_⟩, rest := p.top :: p.rest, groups := p.groups + 1 }, 0)
  | 4 => match p.rest with
    | [] => (p, 10)
    | f :: r => ({ p with top := f.put (.group p.top.group (.cat p.top.kids)) p.top.sizes.sum, rest := r, shut := p.shut.set p.top.group true }, 0)
  | 5 =>
    let old := p.top.sizes.getLastD 0
    let f := { p.top with kids := p.top.kids.dropLast ++ [.rep k.lo.toNat k.hi (p.top.kids.getLastD .bol)], sizes := p.top.sizes.dropLast ++ [old * timesM k.lo.toNat k.hi] }
    ({ p with top := f, size := p.size - old + old * timesM k.lo.toNat k.hi }, growE (p.size - old + old * timesM k.lo.toNat k.hi))
  | 6 => if p.shut.getD k.lo.toNat false = true then ({ p with top := p.top.put (.back k.lo.toNat) 1, size := p.size + 1 }, growE (p.size + 1)) else (p, 11)
  | _ => (p, k.e)
structure Parsed where
  tree : RE
  e : Int
  at_ : Nat
def endM (p : PS) : Parsed := match p.rest with
  | [] => ⟨.cat p.top.kids, 0, 0⟩
  | _ => ⟨.cat [], 10, p.top.at_⟩
def parseGo : List Tok → PS → Parsed
  | [], p => endM p
  | k :: ks, p => if (takeM p k).2 ≠ 0 then ⟨.cat [], (takeM p k).2, k.at_⟩ else parseGo ks (takeM p k).1
def ps0 : PS := ⟨⟨[], [], 0, 0⟩, [], 0, List.replicate 10 false, 0⟩
def parseM (t : List UInt8) : Parsed := if 512 < t.length then ⟨.cat [], 2, 0⟩ else parseGo (toksM t) ps0
def Frame.tot (f : Frame) : Nat := f.sizes.sum
structure PS.Ok (p : PS) : Prop where
  len : ∀ f ∈ p.top :: p.rest, f.kids.length = f.sizes.length
  tot : p.size = p.top.tot + (p.rest.map Frame.tot).sum
  le : p.size ≤ 256
  shut : p.shut.length = 10
  groups : p.groups ≤ 9
  num : ∀ f ∈ p.top :: p.rest, f.group ≤ 9
theorem ps0_ok : ps0.Ok := ⟨by simp [ps0], by simp [ps0, Frame.tot], by simp [ps0], by simp [ps0], by simp [ps0], by simp [ps0]⟩
end Go.Proofs.YthcbjbkheodejaaGreat
namespace Go.Proofs.YthcbjbkheodejaaGreat.Sl
open Go Go.RowKit
def putAt (cs : List Value) (off : Nat) (vs : List Value) : List Value := cs.take off ++ vs ++ cs.drop (off + vs.length)
theorem putAt_len (cs : List Value) (off : Nat) (vs : List Value) (h : off + vs.length ≤ cs.length) : (putAt cs off vs).length = cs.length := by
  simp only [putAt, List.length_append, List.length_take, List.length_drop]; omega
section n
variable {C : Cx} {all : Array Oper} {ops : List Oper} {Q : Qt} {E : Env} {H H' R : List HA} {d ty t g off e : Nat} {pos : String} {af : Array Edge} {gd : Option (Nat × Bool)} {x y z : Operand} {v u : Value}
theorem setRow_grown (w : World) (g : Nat) (cs : Array Value) : w.grownBy (w.setRow g cs) (some g) :=
  ⟨rfl, rfl, rfl, by simp [World.setRow], fun k hk hne => by
    have : k ≠ g := fun e => hne (by rw [e])
    simp [World.setRow, Array.getElem?_modify, Ne.symm this]⟩
theorem setRow_get {w : World} {g : Nat} {cs cur : Array Value} {e : Nat} (h : w.heap[g]? = some (.cells cur e (0, 0))) : (w.setRow g cs).heap[g]? = some (.cells cs e (0, 0)) := by
  have hlt := (Array.getElem?_eq_some_iff.1 h).1
  simp [World.setRow, Array.getElem?_modify, h]
theorem run_put {P : Program} {w : World} {cs : Array Value} {vs : List Value} (h : w.heap[g]? = some (.cells cs e (0, 0))) (hl : off + vs.length ≤ cs.size) (h1 : ∀ u ∈ vs, u.oneCell' = true) :
    (storeCells ⟨g, off, none⟩ vs).run P w = .ok () (w.setRow g (putAt cs.toList off vs).toArray) := by
  have := run_storeCells_at (P := P) g off e vs 0 cs w h (by omega) h1
  simpa [putAt] using this
theorem ownsRow_put {w : World} {len cap n sz : Nat} {cs vs : List Value} (h : w.ownsRow 0 e sz (.slice (some ⟨g, 0, none⟩) len cap) n cs) (hl : off + vs.length ≤ cs.length) :
    ∃ cur : Array Value, w.heap[g]? = some (.cells cur e (0, 0)) ∧ off + vs.length ≤ cur.size ∧ (w.setRow g (putAt cur.toList off vs).toArray).ownsRow 0 e sz (.slice (some ⟨g, 0, none⟩) len cap) n (putAt cs off vs) := by
  obtain ⟨hl0, h2⟩ := h
  rcases h2 with ⟨h', _⟩ | ⟨g', cap', cur, hv, hb, hh, r1, r2, r3, r4⟩
  · cases h'
  · have hv' := hv
    simp only [Value.slice.injEq, Option.some.injEq, Addr.mk.injEq] at hv'
    obtain ⟨⟨rfl, _⟩, rfl, rfl⟩ := hv'
    have hc : cs.length ≤ cur.size := by rw [← r4, List.length_take]; simp only [Array.length_toList]; omega
    refine ⟨cur, hh, by omega, by rw [putAt_len _ _ _ hl]; exact hl0, .inr ⟨g, cap, _, rfl, hb, setRow_get hh, r1, r2, by simp only [List.size_toArray]; rw [putAt_len _ _ _ (by simp only [Array.length_toList]; omega)]; simpa using r3, ?_⟩⟩
    simp only [putAt]
    have e1 : cur.toList.take off = cs.take off := by rw [← r4, List.take_take]; congr 1; omega
    rw [e1, List.append_assoc, List.append_assoc, List.take_append, List.take_append, List.length_take]
    have e2 : (cs.take off).take (len * sz) = cs.take off := by rw [List.take_take]; congr 1; omega
    rw [e2, Nat.min_eq_left (show off ≤ cs.length by omega), List.take_of_length_le (show vs.length ≤ len * sz - off by omega)]
    congr 2
    rw [← r4, List.drop_take]
    congr 1
    omega
theorem EL.storeRA {ti : TI} {len cap n sz : Nat} {cs vs : List Value} (hg : guardOk all E gd = some true) (hx : E.ev x = some (Pv g off)) (hy : E.ev y = some (.agg vs.toArray)) (ht : C.T.f t = some ti) (hsz : ti.size = vs.length)
    (p : PickSet H (HA.row (.slice (some ⟨g, 0, none⟩) len cap) e sz n cs) (HA.row (.slice (some ⟨g, 0, none⟩) len cap) e sz n (putAt cs off vs)) H') (hl : off + vs.length ≤ cs.length) (h1 : ∀ u ∈ vs, u.oneCell' = true) (k : EL C all ops Q E H') : EL C all (⟨none, .store t x y, ty, pos, af, gd⟩ :: ops) Q E H :=
  EL.unit hg rfl (by simp) (fun a w ha => by
    have hT := ((C.T.ok t ti ht).runInfo w)
    obtain ⟨R, p1, p2⟩ := p.split
    have hs1 := ha.2.perm p1
    have hb : w.ownsRow 0 e sz (.slice (some ⟨g, 0, none⟩) len cap) n cs := hs1.head
    obtain ⟨cur, hh, hle, hn⟩ := ownsRow_put hb hl
    have hr := run_put (P := C.P) hh hle h1
    refine ⟨_, ?_, Sat.perm (hs1.turned (A' := HA.row (.slice (some ⟨g, 0, none⟩) len cap) e sz n (putAt cs off vs)) (setRow_grown w g _) (fun k hk => by cases hk; simp [HA.row, Value.ownBlock]) hn (fun g' hg' => ?_) (by simp [HA.row, Value.ownBlock])) p2.symm⟩
    · simp [execOp, ha.1.ev hx, ha.1.ev hy, Instr.storeAt, Instr.sureAddr, storeVar, hT.1, hsz, Value.cells, hr, Result.andThen]
    · simp only [HA.row, Value.ownBlock, Option.toList_some, List.mem_singleton] at hg'
      subst hg'
      exact ⟨(Array.getElem?_eq_some_iff.1 (setRow_get hh)).1, .inl (by simp [HA.row, Value.ownBlock])⟩) k
theorem RV.loadRA {ti : TI} {len cap n sz : Nat} {cs : List Value} (vs : List Value) (hx : E.ev x = some (Pv g off)) (ht : C.T.f t = some ti) (hu : ti.agg = true) (hsz : ti.size = vs.length) (hm : Mem H (HA.row (.slice (some ⟨g, 0, none⟩) len cap) e sz n cs)) (hv : (cs.drop off).take vs.length = vs) :
    RunV C E H ⟨some d, .load t x, ty, pos, af, gd⟩ (.agg vs.toArray) :=
  RV.loadAgg hx ht hu hsz (fun w hs j u hj => by
    rw [add_n]
    refine row_cell (hs.all _ hm.mem) _ _ ?_
    rw [← hv, List.getElem?_take] at hj
    split at hj
    · rwa [List.getElem?_drop] at hj
    · cases hj)
theorem RV.loadBA {ti : TI} {cs : Array Value} {fr : Nat × Nat} (vs : List Value) (hx : E.ev x = some (Pv g off)) (ht : C.T.f t = some ti) (hu : ti.agg = true) (hsz : ti.size = vs.length) (hm : Mem H (HA.blk g (.cells cs e fr))) (hv : (cs.toList.drop off).take vs.length = vs) :
    RunV C E H ⟨some d, .load t x, ty, pos, af, gd⟩ (.agg vs.toArray) :=
  RV.loadAgg hx ht hu hsz (fun w hs j u hj => by
    rw [add_n, blk_cell (hs.all _ hm.mem)]
    rw [← hv, List.getElem?_take] at hj
    split at hj
    · rw [List.getElem?_drop] at hj; simpa using hj
    · cases hj)
theorem RV.sliceHi {ti te : TI} {el hi n cap : Nat} {ad : Option Addr} {kd : IntKind} (hx : E.ev x = some (.slice ad n cap)) (hy : E.ev y = some (.int kd (hi : Nat))) (ht : C.T.f t = some ti) (hu : ti.u = .slice el) (hte : C.T.f el = some te) (hhi : hi ≤ cap) :
    RunV C E H ⟨some d, .slice t x none (some y) none, ty, pos, af, gd⟩ (.slice ad hi cap) := fun a w ha => by
  have hT := (C.T.ok t ti ht).u
  rw [hu] at hT
  have hI := (C.T.ok el te hte).runInfo w
  cases ad with
  | none => simp [execOp, ha.1.ev hx, ha.1.ev hy, Instr.sliceAt, Instr.slice, Instr.sliceBounds, Instr.sliceBound, asIntOf, run_underlying hT, hI.1, Result.andThen, hhi]
  | some ad => simp [execOp, ha.1.ev hx, ha.1.ev hy, Instr.sliceAt, Instr.slice, Instr.sliceBounds, Instr.sliceBound, asIntOf, run_underlying hT, hI.1, Result.andThen, hhi, Addr.add]
theorem ownsRow_cut {w : World} {ad : Option Addr} {len cap n sz m : Nat} {cs : List Value} (h : w.ownsRow 0 e sz (.slice ad len cap) n cs) (hm : m ≤ n) : w.ownsRow 0 e sz (.slice ad m cap) m (cs.take (m * sz)) := by
  obtain ⟨hl, h2⟩ := h
  have hmn : m * sz ≤ n * sz := Nat.mul_le_mul_right _ hm
  refine ⟨by rw [List.length_take]; omega, ?_⟩
  rcases h2 with ⟨h', h0⟩ | ⟨g', cap', cur, hv, hb, hh, r1, r2, r3, r4⟩
  · simp only [Value.slice.injEq] at h'
    obtain ⟨rfl, rfl, rfl⟩ := h'
    obtain rfl : m = 0 := by omega
    exact .inl ⟨rfl, rfl⟩
  · simp only [Value.slice.injEq] at hv
    obtain ⟨rfl, rfl, rfl⟩ := hv
    refine .inr ⟨g', cap, cur, rfl, hb, hh, by omega, r2, r3, ?_⟩
    rw [← r4, List.take_take, Nat.min_eq_left hmn]
theorem Sat.cutRow {w0 w : World} {B : Nat} {ad : Option Addr} {len cap n sz m : Nat} {cs : List Value} (h : Sat w0 B (HA.row (.slice ad len cap) e sz n cs :: R) w) (hm : m ≤ n) : Sat w0 B (HA.row (.slice ad m cap) e sz m (cs.take (m * sz)) :: R) w := by
  have hf : (HA.row (.slice ad m cap) e sz m (cs.take (m * sz))).fp = (HA.row (.slice ad len cap) e sz n cs).fp := by
    simp only [HA.row]
    cases ad <;> rfl
  refine ⟨h.below, h.base, by have := h.nodup; rw [fps_cons] at this ⊢; rw [hf]; exact this, fun g hg => h.lo g (by rw [fps_cons] at hg ⊢; rw [← hf]; exact hg), fun X hX => ?_⟩
  rcases List.mem_cons.1 hX with rfl | hX
  · have h1 : w.ownsRow 0 e sz (.slice ad len cap) n cs := h.head
    exact ownsRow_cut h1 hm
  · exact h.all X (by simp [hX])
end n
end Go.Proofs.YthcbjbkheodejaaGreat.Sl
namespace Go.Proofs.YthcbjbkheodejaaGreat
open Go Go.RowKit Sl
set_option maxRecDepth 100000
set_option maxHeartbeats 8000000
attribute [local irreducible] ES EL PX wps
def reCells (r : RE) (kv : Value) : List Value := [Iv (r.kind : Nat), Wv r.set.a, Wv r.set.b, Wv r.set.c, Wv r.set.d, Iv (r.lo : Nat), Iv r.hi, Iv (r.num : Nat), kv]
def Reads (S : Nat → Prop) (w : World) (ad : Option Addr) (cs : List Value) : Prop :=
  cs ≠ [] → ∃ g off, ad = some ⟨g, off, none⟩ ∧ S g ∧ ∃ ca ta, w.heap[g]? = some (.cells ca ta (0, 0)) ∧ ∀ j v, cs[j]? = some v → ca[off + j]? = some v
theorem Reads.nil {S : Nat → Prop} {w : World} {ad : Option Addr} : Reads S w ad [] := fun h => absurd rfl h
theorem Reads.mono {S S' : Nat → Prop} {w : World} {ad : Option Addr} {cs : List Value} (h : Reads S w ad cs) (hs : ∀ g, S g → S' g) : Reads S' w ad cs := fun hne => by
  obtain ⟨g, off, h1, h2, h3⟩ := h hne
  exact ⟨g, off, h1, hs g h2, h3⟩
theorem Reads.loc {S : Nat → Prop} {w w' : World} {ad : Option Addr} {cs : List Value} (h : Reads S w ad cs) (hl : ∀ g, S g → w'.heap[g]? = w.heap[g]?) : Reads S w' ad cs := fun hne => by
  obtain ⟨g, off, h1, h2, ca, ta, h3, h4⟩ := h hne
  exact ⟨g, off, h1, h2, ca, ta, by rw [hl g h2]; exact h3, h4⟩
theorem Reads.cell {S : Nat → Prop} {w : World} {g off : Nat} {cs : List Value} (h : Reads S w (some ⟨g, off, none⟩) cs) (j : Nat) (v : Value) (hj : cs[j]? = some v) : w.cell? ⟨g, off + j, none⟩ = some v := by
  obtain ⟨g', off', h1, _, ca, ta, h3, h4⟩ := h (fun e => by subst e; simp at hj)
  simp only [Option.some.injEq, Addr.mk.injEq] at h1
  obtain ⟨rfl, rfl, _⟩ := h1
  simp only [World.cell?, h3]
  exact h4 j v hj
theorem Reads.rd {w : World} {B : Nat} {ad : Option Addr} {cs : List Value} (h : Reads (· < B) w ad cs) : Rd w B ad cs := fun hne => by
  obtain ⟨g, off, h1, h2, ca, ta, h3, h4⟩ := h hne
  exact ⟨g, off, h1, h2, fun j v hj => by simp only [World.cell?, h3]; exact h4 j v hj⟩
theorem row_reads {w : World} {e sz g n cap : Nat} {cs : List Value} (h : w.ownsRow 0 e sz (.slice (some ⟨g, 0, none⟩) n cap) n cs) : ∃ ca ta, w.heap[g]? = some (.cells ca ta (0, 0)) ∧ ∀ j v, cs[j]? = some v → ca[0 + j]? = some v := by
  obtain ⟨_, (⟨h', _⟩ | ⟨g', cap', cur, hv, _, hh, _, _, _, ht⟩)⟩ := h
  · cases h'
  · simp only [Value.slice.injEq, Option.some.injEq, Addr.mk.injEq] at hv
    obtain ⟨⟨rfl, _⟩, _, _⟩ := hv
    refine ⟨cur, e, hh, fun j v hj => ?_⟩
    rw [← ht] at hj
    rw [Nat.zero_add]
    rw [List.getElem?_take] at hj
    split at hj
    · simpa using hj
    · cases hj
inductive Forest (S : Nat → Prop) (w : World) : List RE → List Value → Prop
  | nil : Forest S w [] []
  | cons (r : RE) (ks : List RE) (ad : Option Addr) (cap : Nat) (cs0 cs : List Value) (hc : r.kids.length ≤ cap) (h0 : Forest S w r.kids cs0) (hr : Reads S w ad cs0) (h : Forest S w ks cs) : Forest S w (r :: ks) (reCells r (.slice ad r.kids.length cap) ++ cs)
theorem Forest.len {S : Nat → Prop} {w : World} {ks : List RE} {cs : List Value} (h : Forest S w ks cs) : cs.length = ks.length * 9 := by
  induction h with
  | nil => rfl
  | cons r ks ad cap cs0 cs hc h0 hr h ih0 ih => simp only [List.length_append, ih, List.length_cons, reCells, List.length_nil]; omega
theorem Forest.mono {S S' : Nat → Prop} {w : World} {ks : List RE} {cs : List Value} (h : Forest S w ks cs) (hs : ∀ g, S g → S' g) : Forest S' w ks cs := by
  induction h with
  | nil => exact .nil
  | cons r ks ad cap cs0 cs hc h0 hr h ih0 ih => exact .cons r ks ad cap cs0 cs hc ih0 (hr.mono hs) ih
theorem Forest.loc {S : Nat → Prop} {w w' : World} {ks : List RE} {cs : List Value} (h : Forest S w ks cs) (hl : ∀ g, S g → w'.heap[g]? = w.heap[g]?) : Forest S w' ks cs := by
  induction h with
  | nil => exact .nil
  | cons r ks ad cap cs0 cs hc h0 hr h ih0 ih => exact .cons r ks ad cap cs0 cs hc ih0 (hr.loc hl) ih
theorem Forest.append {S : Nat → Prop} {w : World} {ks ks' : List RE} {cs cs' : List Value} (h : Forest S w ks cs) (h' : Forest S w ks' cs') : Forest S w (ks ++ ks') (cs ++ cs') := by
  induction h with
  | nil => exact h'
  | cons r ks ad cap cs0 cs hc h0 hr h ih0 ih => rw [List.append_assoc]; exact .cons r _ ad cap cs0 _ hc h0 hr ih
theorem Forest.one {S : Nat → Prop} {w : World} (r : RE) (ad : Option Addr) (cap : Nat) (cs0 : List Value) (hc : r.kids.length ≤ cap) (h0 : Forest S w r.kids cs0) (hr : Reads S w ad cs0) : Forest S w [r] (reCells r (.slice ad r.kids.length cap)) := by
  have := Forest.cons r [] ad cap cs0 [] hc h0 hr .nil
  simpa using this
theorem Forest.leaf {S : Nat → Prop} {w : World} (r : RE) (h : r.kids = []) : Forest S w [r] (reCells r (.slice none 0 0)) := by
  have := Forest.one (S := S) (w := w) r none 0 [] (by rw [h]; exact Nat.le_refl _) (by rw [h]; exact .nil) Reads.nil
  rw [h] at this; exact this
theorem drop9 (c cs : List Value) (h : c.length = 9) (i : Nat) : (c ++ cs).drop ((i + 1) * 9) = cs.drop (i * 9) := by
  rw [List.drop_append, List.drop_of_length_le (by omega), List.nil_append]
  congr 1; omega
theorem take9 (c cs : List Value) (h : c.length = 9) (i : Nat) : (c ++ cs).take ((i + 1) * 9) = c ++ cs.take (i * 9) := by
  rw [List.take_append, List.take_of_length_le (by omega)]
  congr 2; omega
theorem Forest.get {S : Nat → Prop} {w : World} {ks : List RE} {cs : List Value} (h : Forest S w ks cs) : ∀ (i : Nat) (r : RE), ks[i]? = some r → ∃ ad cap cs0, (cs.drop (i * 9)).take 9 = reCells r (.slice ad r.kids.length cap) ∧ Forest S w r.kids cs0 ∧ Reads S w ad cs0 ∧ r.kids.length ≤ cap := by
  induction h with
  | nil => intro i r hi; simp at hi
  | cons r ks ad cap cs0 cs hc h0 hr h ih0 ih =>
    intro i r' hi
    cases i with
    | zero =>
      simp only [List.getElem?_cons_zero, Option.some.injEq] at hi
      subst hi
      exact ⟨ad, cap, cs0, by simp [reCells], h0, hr, hc⟩
    | succ i =>
      simp only [List.getElem?_cons_succ] at hi
      obtain ⟨ad', cap', cs1, h1, h2, h3⟩ := ih i r' hi
      refine ⟨ad', cap', cs1, ?_, h2, h3⟩
      rw [drop9 _ _ rfl]
      exact h1
theorem Forest.drop {S : Nat → Prop} {w : World} {ks : List RE} {cs : List Value} (h : Forest S w ks cs) : ∀ i, Forest S w (ks.drop i) (cs.drop (i * 9)) := by
  induction h with
  | nil => intro i; simp; exact .nil
  | cons r ks ad cap cs0 cs hc h0 hr h ih0 ih =>
    intro i
    cases i with
    | zero => simp only [List.drop_zero, Nat.zero_mul]; exact .cons r ks ad cap cs0 cs hc h0 hr h
    | succ i =>
      rw [drop9 _ _ rfl]
      exact ih i
theorem Forest.take {S : Nat → Prop} {w : World} {ks : List RE} {cs : List Value} (h : Forest S w ks cs) : ∀ i, Forest S w (ks.take i) (cs.take (i * 9)) := by
  induction h with
  | nil => intro i; simp; exact .nil
  | cons r ks ad cap cs0 cs hc h0 hr h ih0 ih =>
    intro i
    cases i with
    | zero => simp only [List.take_zero, Nat.zero_mul]; exact .nil
    | succ i =>
      rw [take9 _ _ rfl]
      exact Forest.cons r _ ad cap cs0 _ hc h0 hr (ih i)
def HA.forest (fp : List Nat) (ks : List RE) (cs : List Value) : HA := ⟨fp, fun w => Forest (· ∈ fp) w ks cs, fun w w' h hw => hw.loc (fun g hg => h g hg)⟩
theorem Sat.rule {w0 w : World} {B : Nat} {Hs R : List HA} {A : HA} (h : Sat w0 B (Hs ++ R) w) (hf : (fps Hs).Perm A.fp) (hA : (∀ X ∈ Hs, X.holds w) → A.holds w) : Sat w0 B (A :: R) w := by
  have hp : (fps (Hs ++ R)).Perm (fps (A :: R)) := by rw [fps_append, fps_cons]; exact hf.append_right _
  refine ⟨h.below, h.base, hp.nodup_iff.1 h.nodup, fun g hg => h.lo g (hp.mem_iff.2 hg), fun X hX => ?_⟩
  rcases List.mem_cons.1 hX with rfl | hX
  · exact hA (fun Y hY => h.all Y (by simp [hY]))
  · exact h.all X (by simp [hX])
theorem Sat.forest0 {w0 w : World} {B : Nat} {H : List HA} (h : Sat w0 B H w) (ks : List RE) (cs : List Value) (hf : ∀ S w, Forest S w ks cs) : Sat w0 B (HA.forest [] ks cs :: H) w :=
  Sat.rule (Hs := []) h (by simp only [fps, List.flatMap_cons, List.flatMap_nil, HA.forest, HA.row, List.append_nil]; exact List.Perm.refl _) (fun _ => hf _ _)
theorem Sat.forestApp {w0 w : World} {B : Nat} {R : List HA} {fp fp' : List Nat} {ks ks' : List RE} {cs cs' : List Value} (h : Sat w0 B (HA.forest fp ks cs :: HA.forest fp' ks' cs' :: R) w) : Sat w0 B (HA.forest (fp ++ fp') (ks ++ ks') (cs ++ cs') :: R) w :=
  Sat.rule (Hs := [HA.forest fp ks cs, HA.forest fp' ks' cs']) h (by simp only [fps, List.flatMap_cons, List.flatMap_nil, HA.forest, HA.row, List.append_nil]; exact List.Perm.refl _) (fun hh => by
    have h1 : Forest (· ∈ fp) w ks cs := hh (HA.forest fp ks cs) (by simp)
    have h2 : Forest (· ∈ fp') w ks' cs' := hh (HA.forest fp' ks' cs') (by simp)
    exact (h1.mono (fun g hg => by simp [hg])).append (h2.mono (fun g hg => by simp [hg])))
theorem Sat.seal {w0 w : World} {B : Nat} {R : List HA} {fp : List Nat} {ks : List RE} {cs : List Value} {ad : Option Addr} {n cap e : Nat} (r : RE) (hr : r.kids = ks) (h : Sat w0 B (HA.row (.slice ad n cap) e 9 ks.length cs :: HA.forest fp ks cs :: R) w) :
    Sat w0 B (HA.forest ((Value.slice ad n cap).ownBlock.toList ++ fp) [r] (reCells r (.slice ad ks.length cap)) :: R) w :=
  Sat.rule (Hs := [HA.row (.slice ad n cap) e 9 ks.length cs, HA.forest fp ks cs]) h (by simp only [fps, List.flatMap_cons, List.flatMap_nil, HA.forest, HA.row, List.append_nil]; exact List.Perm.refl _) (fun hh => by
    have h1 : w.ownsRow 0 e 9 (.slice ad n cap) ks.length cs := hh (HA.row (.slice ad n cap) e 9 ks.length cs) (by simp)
    have h2 : Forest (· ∈ fp) w ks cs := hh (HA.forest fp ks cs) (by simp)
    subst hr
    refine Forest.one r ad cap cs (row_form h1).2.1 (h2.mono (fun g hg => by simp [hg])) (fun hne => ?_)
    obtain ⟨hl2, _, _, hl, hform⟩ := row_form h1
    obtain ⟨g, rfl⟩ := hform (by
      rcases Nat.eq_zero_or_pos r.kids.length with h0 | h0
      · rw [h0] at hl; exact absurd (List.eq_nil_of_length_eq_zero (by omega)) hne
      · exact h0)
    exact ⟨g, 0, rfl, by simp [Value.ownBlock], row_reads (by obtain rfl := hl2; exact h1)⟩)
theorem Sat.forestEq {w0 w : World} {B : Nat} {R : List HA} {fp : List Nat} {ks ks' : List RE} {cs cs' : List Value} (h : Sat w0 B (HA.forest fp ks cs :: R) w) (hf : ∀ S w, Forest S w ks cs → Forest S w ks' cs') : Sat w0 B (HA.forest fp ks' cs' :: R) w :=
  Sat.rule (Hs := [HA.forest fp ks cs]) h (by simp only [fps, List.flatMap_cons, List.flatMap_nil, HA.forest, HA.row, List.append_nil]; exact List.Perm.refl _) (fun hh => hf _ _ (hh (HA.forest fp ks cs) (by simp)))
abbrev ForestRd (w : World) (B : Nat) (ks : List RE) (cs : List Value) : Prop := Forest (· < B) w ks cs
theorem Forest.sat {w0 w : World} {B : Nat} {H : List HA} {fp : List Nat} {ks : List RE} {cs : List Value} (hs : Sat w0 B H w) (hm : Mem H (HA.forest fp ks cs)) : ForestRd w w.heap.size ks cs := by
  have h : Forest (· ∈ fp) w ks cs := hs.all _ hm.mem
  exact h.mono (fun g hg => (hs.lo g (List.mem_flatMap.2 ⟨_, hm.mem, hg⟩)).2)
theorem Forest.beneath {w0 w : World} {B B' : Nat} {ks : List RE} {cs : List Value} (h : ForestRd w0 B ks cs) (hb : Below B w0 w) (hB : B ≤ B') : ForestRd w B' ks cs :=
  (h.loc (fun g hg => hb.block g hg)).mono (fun g hg => Nat.lt_of_lt_of_le hg hB)
end Go.Proofs.YthcbjbkheodejaaGreat
namespace Go.Proofs.YthcbjbkheodejaaGreat.Sl
open Go Go.RowKit Go.Lib
section buffers
variable {C : Cx} {all : Array Oper} {ops : List Oper} {Q : Qt} {E : Env} {H H' R : List HA} {d ty t t' t2 e g off : Nat} {pos : String} {af : Array Edge} {gd : Option (Nat × Bool)} {x y : Operand}
theorem RV.addK {kd : IntKind} {m n : Nat} (hx : E.ev x = some (.int kd (m : Nat))) (hy : E.ev y = some (.int kd (n : Nat))) (hr : m + n ≤ kmax kd) : RunV C E H ⟨some d, .binOp .add t x y t', ty, pos, af, gd⟩ (.int kd ((m + n : Nat) : Int)) :=
  RV.add _ hx hy (wrap_of_le kd (m + n) hr)
theorem RV.subK {kd : IntKind} {m n : Nat} (hx : E.ev x = some (.int kd (m : Nat))) (hy : E.ev y = some (.int kd (n : Nat))) (hle : n ≤ m) (hr : m ≤ kmax kd) : RunV C E H ⟨some d, .binOp .sub t x y t', ty, pos, af, gd⟩ (.int kd ((m - n : Nat) : Int)) :=
  RV.sub_ _ hx hy (by rw [show (m : Int) - (n : Int) = ((m - n : Nat) : Int) by omega]; exact wrap_of_le kd (m - n) (by omega))
end buffers
end Go.Proofs.YthcbjbkheodejaaGreat.Sl
namespace Go.Proofs.YthcbjbkheodejaaGreat
open Go Go.RowKit Sl
set_option maxRecDepth 100000
set_option maxHeartbeats 8000000
attribute [local irreducible] ES EL PX wps
theorem isDig_int (b : UInt8) : isDig b = (decide (48 ≤ (b.toNat : Int)) && decide ((b.toNat : Int) ≤ 57)) := by
  unfold isDig
  rw [Bool.eq_iff_iff]
  simp only [decide_eq_true_eq, Bool.and_eq_true]
  omega
theorem numGo_le (t : List UInt8) : ∀ (k n a : Nat), n ≤ 256 → a + k ≤ t.length → (numGo t k n a).1 ≤ 256 ∧ a ≤ (numGo t k n a).2 ∧ (numGo t k n a).2 ≤ a + k
  | 0, n, a, hn, _ => ⟨hn, Nat.le_refl _, Nat.le_refl _⟩
  | k + 1, n, a, hn, ha => by
    rw [numGo]
    split
    · have := numGo_le t k (min (10 * n + ((t.getD a 0).toNat - 48)) 256) (a + 1) (by omega) (by omega)
      omega
    · exact ⟨hn, Nat.le_refl _, by simp only; omega⟩
theorem numM_le (t : List UInt8) (a : Nat) (h : a ≤ t.length) : -1 ≤ (numM t a).1 ∧ (numM t a).1 ≤ 256 ∧ a ≤ (numM t a).2 ∧ (numM t a).2 ≤ t.length := by
  have := numGo_le t (t.length - a) 0 a (by omega) (by omega)
  unfold numM
  dsimp only
  split <;> omega
theorem number_c (t : List UInt8) (a : Nat) (ha : a ≤ t.length) (ht : t.length ≤ 1073741824) (w : World) : Pure Tryz.prog 114 #[Sv t, Iv (a : Nat)] (fun _ : Unit => .tuple #[Iv (numM t a).1, Iv ((numM t a).2 : Nat)]) (fun _ => []) w := by
  refine calls_of_ES TB Tryz.func114 rfl _ Tryz.ntmps114 rfl (Sat.start w) ?_; refine .go ?_; (repeat constructor); refine .as_ ?_; refine .as_ ?_; refine .go ?_; (repeat constructor); refine .mv ?_; refine .as_ ?_; refine .as_ ?_; refine .go ?_; repeat constructor
  obtain ⟨res, hres⟩ : ∃ res, res = numGo t (t.length - a) 0 a := ⟨_, rfl⟩
  have hm : numM t a = (if res.2 = a then -1 else (res.1 : Int), res.2) := by rw [hres]; rfl
  rw [hm]
  refine ES.loop (σ := Nat × Nat) (fun (n, c) => n ≤ 256 ∧ a ≤ c ∧ c ≤ t.length ∧ numGo t (t.length - c) n c = res) (fun (n, c) => [(0, Sv t), (1, Iv (c : Nat)), (6, Iv (n : Nat)), (7, Iv (a : Nat))]) (fun _ => []) (fun (n, c) => t.length - c) (0, a) ⟨by omega, Nat.le_refl _, ha, hres.symm⟩ ⟨rfl, rfl, rfl, rfl, trivial⟩ (.i (by repeat constructor)) ?_
  rintro ⟨n, c⟩ ⟨hn, hac, hc, hgo⟩
  dsimp only at hn hac hc hgo ⊢
  refine .go ?_; repeat constructor
  refine EL.cutX (X := Unit) (fun _ => [(0, Sv t), (1, Iv (c : Nat)), (6, Iv (n : Nat)), (7, Iv (a : Nat)), (24, .bool (decide ((c : Int) < (t.length : Int)) && isDig (t.getD c 0)))]) (fun _ => []) ?_ (fun _ => ?_)
  · refine .go ?_; (repeat constructor); refine .mv ?_; refine .mv ?_; refine .lS ?_; refine .ls ?_; refine .mv ?_
    first | refine EL.splitD (d := 13) rfl (fun hp13 => ?_) (fun hp13 => ?_) | refine EL.splitN (d := 13) rfl (fun hp13 => ?_) (fun hp13 => ?_) | refine EL.splitB (d := 13) rfl (fun hp13 => ?_) (fun hp13 => ?_)
    · refine .mv ?_; refine .mv ?_; refine .iS ?_; refine .gq ?_; refine .pt ?_; refine .mv ?_
      first | refine EL.splitD (d := 19) rfl (fun hp19 => ?_) (fun hp19 => ?_) | refine EL.splitN (d := 19) rfl (fun hp19 => ?_) (fun hp19 => ?_) | refine EL.splitB (d := 19) rfl (fun hp19 => ?_) (fun hp19 => ?_)
      · refine .mv ?_; refine .mv ?_; refine .iS ?_; refine .lq ?_; refine .pt ?_
        exact .dx () ⟨rfl, rfl, rfl, rfl, getA rfl (congrArg Value.bool (by rw [isDig_int]; simp_all <;> omega)), trivial⟩
      · refine .ps ?_; refine .ps ?_; refine .ps ?_; refine .ps ?_; refine .pf ?_
        exact .dx () ⟨rfl, rfl, rfl, rfl, getA rfl (congrArg Value.bool (by rw [isDig_int]; simp_all <;> omega)), trivial⟩
    · refine .ps ?_; refine .ps ?_; refine .ps ?_; refine .ps ?_; refine .pf ?_; refine .mv ?_; refine .ps ?_; refine .ps ?_; refine .ps ?_; refine .ps ?_; refine .pf ?_
      exact .dx () ⟨rfl, rfl, rfl, rfl, getA rfl (congrArg Value.bool (by rw [isDig_int]; simp_all <;> omega)), trivial⟩
  refine ES.cond rfl (fun hd => ?_) (fun hd => ?_)
  · rw [Bool.and_eq_true, decide_eq_true_eq] at hd
    have hlt : c < t.length := by omega
    have hdig := hd.2
    have hb : 48 ≤ (t.getD c 0).toNat ∧ (t.getD c 0).toNat ≤ 57 := by unfold isDig at hdig; exact of_decide_eq_true hdig
    obtain ⟨k, hk⟩ : ∃ k, t.length - c = k + 1 := ⟨t.length - c - 1, by omega⟩
    rw [hk, numGo, if_pos ⟨hlt, hd.2⟩] at hgo
    refine .go ?_; (repeat constructor); refine .mv ?_; refine EL.mulN (m := 10) rfl rfl rfl rfl rfl (by omega) ?_; refine .mv ?_; refine .mv ?_; refine .iS ?_
    refine EL.ofRV (RV.subK (n := 48) rfl rfl (by omega) (by simp only [kmax]; omega)) rfl rfl rfl (by intro c h; cases h) ?_
    refine EL.convN rfl rfl rfl rfl rfl rfl (by simp only [kmax]; omega) ?_
    refine EL.addN rfl rfl rfl rfl rfl (by omega) ?_
    refine EL.ofRV (RV.minI rfl rfl) rfl rfl rfl (by intro c h; cases h) ?_
    refine .as_ ?_; refine .go ?_; (repeat constructor); refine .mv ?_; refine .a1 ?_; refine .as_ ?_; refine .go ?_; repeat constructor
    refine .lx (min (10 * n + ((t.getD c 0).toNat - 48)) 256, c + 1) ⟨by simp only; omega, by simp only; omega, by simp only; omega, by simp only; rw [show t.length - (c + 1) = k by omega]; exact hgo⟩ (by simp only; omega) ⟨rfl, rfl, getA rfl (congrArg Iv (by omega)), rfl, trivial⟩
  · have hr : res = (n, c) := by
      rw [← hgo]
      cases hk : t.length - c with
      | zero => rfl
      | succ k =>
        rw [numGo, if_neg]
        rintro ⟨h1, h2⟩
        rw [h2, decide_eq_true (by omega)] at hd
        cases hd
    rw [hr]
    refine .go ?_; (repeat constructor); refine .mv ?_; refine .mv ?_; refine .ei ?_; refine .go ?_; repeat constructor
    refine ES.cutC (X := Unit) (fun _ => [(1, Iv (c : Nat)), (6, Iv (if c = a then -1 else (n : Int)))]) (fun _ => []) ?_ (fun _ => ?_)
    · refine ES.condD rfl (fun he => ?_) (fun hne => ?_)
      · refine .go ?_; (repeat constructor); refine .as_ ?_; refine .go ?_; repeat constructor
        exact .cx () ⟨rfl, getA rfl (congrArg Iv (by rw [if_pos (by omega)])), trivial⟩
      · refine .go ?_; repeat constructor
        exact .cx () ⟨rfl, getA rfl (congrArg Iv (by rw [if_neg (by omega)])), trivial⟩
    refine .go ?_; (repeat constructor); refine .mv ?_; refine .mv ?_; refine .as_ ?_; refine .as_ ?_; refine .go ?_; repeat constructor
    exact PX.ret rfl Tryz.results114 (.cons (.tmp rfl) (.cons (.tmp rfl) .nil)) (fun w hs => ⟨(), rfl, hs.ent (.i (by repeat constructor))⟩)
def ivV (o : Option (Nat × Int × Nat)) : Value := match o with
  | none => .tuple #[Iv 0, Iv 0, Iv 0, .bool false]
  | some (lo, hi, n) => .tuple #[Iv (lo : Nat), Iv hi, Iv (n : Nat), .bool true]
theorem iv_le {t : List UInt8} {a lo n : Nat} {hi : Int} (h : ivM t a = some (lo, hi, n)) : lo ≤ 255 ∧ -1 ≤ hi ∧ hi ≤ 255 ∧ (0 ≤ hi → (lo : Int) ≤ hi) ∧ a < n ∧ n ≤ t.length := by
  have hbeyond : t.length < a → numM t a = (-1, a) := fun h => by
    unfold numM
    rw [show t.length - a = 0 by omega]
    simp [numGo]
  have h1 := numM_le t a
  unfold ivM at h
  dsimp only at h
  obtain ⟨h2, hh⟩ : ∃ h2, h2 = (if (numM t a).2 < t.length ∧ t.getD (numM t a).2 0 = 44 then numM t ((numM t a).2 + 1) else numM t a) := ⟨_, rfl⟩
  rw [← hh] at h
  generalize hl : numM t a = l at h h1 hh hbeyond
  by_cases hb : l.1 < 0 ∨ 255 < l.1 ∨ 255 < h2.1 ∨ (0 ≤ h2.1 ∧ h2.1 < l.1)
  · rw [if_pos hb] at h; cases h
  rw [if_neg hb] at h
  by_cases hb2 : t.length < h2.2 + 2 ∨ (t.drop h2.2).take 2 ≠ [92, 125]
  · rw [if_pos hb2] at h; cases h
  rw [if_neg hb2] at h
  simp only [Option.some.injEq, Prod.mk.injEq] at h
  obtain ⟨rfl, rfl, rfl⟩ := h
  simp only [not_or, Nat.not_lt] at hb hb2
  have ha : a ≤ t.length := by
    rcases Nat.lt_or_ge t.length a with h3 | h3
    · have := hbeyond h3
      subst this
      simp only at hb
      omega
    · exact h3
  have h4 := h1 ha
  have h5 : -1 ≤ h2.1 ∧ a ≤ h2.2 := by
    rw [hh]
    split
    · have := numM_le t (l.2 + 1) (by omega); omega
    · omega
  omega
theorem interval_c (t : List UInt8) (a : Nat) (ha : a ≤ t.length) (ht : t.length ≤ 1073741824) (w : World) : Pure Tryz.prog 98 #[Sv t, Iv (a : Nat)] (fun _ : Unit => ivV (ivM t a)) (fun _ => []) w := by
  have hl := numM_le t a ha
  have hnc := number_c t a ha ht
  have hiv : ivM t a = (let l := numM t a
    let h := if l.2 < t.length ∧ t.getD l.2 0 = 44 then numM t (l.2 + 1) else l
    if l.1 < 0 ∨ 255 < l.1 ∨ 255 < h.1 ∨ (0 ≤ h.1 ∧ h.1 < l.1) then none
    else if t.length < h.2 + 2 ∨ (t.drop h.2).take 2 ≠ [92, 125] then none
    else some (l.1.toNat, h.1, h.2 + 2)) := rfl
  dsimp only at hiv
  generalize numM t a = l at hl hnc hiv
  obtain ⟨l1, l2⟩ := l
  dsimp only at hl hnc hiv
  have h44 : (((t.getD l2 0).toNat : Int) = 44) ↔ t.getD l2 0 = 44 := u8_lit (t.getD l2 0) 44 (by omega)
  refine calls_of_ES TB Tryz.func98 rfl _ Tryz.ntmps98 rfl (Sat.start w) ?_; refine .go ?_; (repeat constructor); refine .as_ ?_; refine .as_ ?_; refine .as_ ?_; refine .as_ ?_; refine .go ?_; (repeat constructor); refine .mv ?_; refine .mv ?_; refine EL.callP rfl rfl rfl ent114 rfl hnc ?_; refine .mv ?_; refine .ex ?_; refine .ex ?_; refine .as_ ?_; refine .as_ ?_; refine .go ?_; (repeat constructor); refine .mv ?_; refine .as_ ?_; refine .go ?_; repeat constructor
  refine EL.cutX (X := Unit) (fun _ => [(0, Sv t), (1, Iv (l2 : Nat)), (4, Iv l1), (5, Iv l1), (24, .bool (decide (l2 < t.length ∧ t.getD l2 0 = 44)))]) (fun _ => []) ?_ (fun _ => ?_)
  · refine .go ?_; (repeat constructor); refine .mv ?_; refine .mv ?_; refine .lS ?_; refine .ls ?_; refine .mv ?_
    first | refine EL.splitD (d := 19) rfl (fun hp19 => ?_) (fun hp19 => ?_) | refine EL.splitN (d := 19) rfl (fun hp19 => ?_) (fun hp19 => ?_) | refine EL.splitB (d := 19) rfl (fun hp19 => ?_) (fun hp19 => ?_)
    · refine .mv ?_; refine .mv ?_; refine .iS ?_; refine .ei ?_; refine .pt ?_
      exact .dx () ⟨rfl, rfl, rfl, rfl, getA rfl (congrArg Value.bool (by rw [Bool.eq_iff_iff]; simp only [decide_eq_true_eq, ← h44]; first | omega | (simp only [Bool.false_eq_true, false_iff]; omega))), trivial⟩
    · refine .ps ?_; refine .ps ?_; refine .ps ?_; refine .ps ?_; refine .pf ?_
      exact .dx () ⟨rfl, rfl, rfl, rfl, getA rfl (congrArg Value.bool (by rw [Bool.eq_iff_iff]; simp only [decide_eq_true_eq, ← h44]; first | omega | (simp only [Bool.false_eq_true, false_iff]; omega))), trivial⟩
  obtain ⟨h, hh⟩ : ∃ h, h = (if l2 < t.length ∧ t.getD l2 0 = 44 then numM t (l2 + 1) else (l1, l2)) := ⟨_, rfl⟩
  rw [← hh] at hiv
  have hle : -1 ≤ h.1 ∧ h.1 ≤ 256 ∧ h.2 ≤ t.length := by
    rw [hh]
    split
    · have := numM_le t (l2 + 1) (by omega); omega
    · omega
  refine ES.cutC (X := Unit) (fun _ => [(0, Sv t), (1, Iv (h.2 : Nat)), (4, Iv l1), (5, Iv h.1)]) (fun _ => []) ?_ (fun _ => ?_)
  · refine ES.condD rfl (fun hc => ?_) (fun hc => ?_)
    · rw [if_pos hc] at hh
      subst hh
      have hnc2 := number_c t (l2 + 1) (by omega) ht
      refine .go ?_; (repeat constructor); refine .mv ?_; refine .mv ?_; refine .a1 ?_; refine EL.callP rfl rfl rfl ent114 rfl hnc2 ?_; refine .mv ?_; refine .ex ?_; refine .ex ?_; refine .as_ ?_; refine .as_ ?_; refine .go ?_; repeat constructor
      exact .cy ()
    · rw [if_neg hc] at hh
      subst hh
      refine .go ?_; repeat constructor
      exact .cy ()
  obtain ⟨h1, h2⟩ := h
  dsimp only at hiv hle ⊢
  refine .go ?_; repeat constructor
  refine EL.cutX (X := Unit) (fun _ => [(0, Sv t), (1, Iv (h2 : Nat)), (4, Iv l1), (5, Iv h1), (50, .bool (decide (l1 < 0 ∨ 255 < l1 ∨ 255 < h1 ∨ (0 ≤ h1 ∧ h1 < l1))))]) (fun _ => []) ?_ (fun _ => ?_)
  · refine .go ?_; (repeat constructor); refine .mv ?_; refine .ls ?_; refine .mv ?_
    first | refine EL.splitD (d := 34) rfl (fun hp34 => ?_) (fun hp34 => ?_) | refine EL.splitN (d := 34) rfl (fun hp34 => ?_) (fun hp34 => ?_) | refine EL.splitB (d := 34) rfl (fun hp34 => ?_) (fun hp34 => ?_)
    · refine .ps ?_; refine .ps ?_; refine .pt ?_; refine .mv ?_; refine .ps ?_; refine .ps ?_; refine .pt ?_; refine .mv ?_; refine .ps ?_; refine .ps ?_; refine .ps ?_; refine .ps ?_; refine .ps ?_; refine .ps ?_; refine .ps ?_; refine .pt ?_
      exact .dx () ⟨rfl, rfl, rfl, rfl, getA rfl (congrArg Value.bool (by rw [Bool.eq_iff_iff]; simp only [decide_eq_true_eq, true_iff, Bool.false_eq_true, false_iff]; omega)), trivial⟩
    · refine .mv ?_; refine .gt_ ?_; refine .pf ?_; refine .mv ?_
      first | refine EL.splitD (d := 38) rfl (fun hp38 => ?_) (fun hp38 => ?_) | refine EL.splitN (d := 38) rfl (fun hp38 => ?_) (fun hp38 => ?_) | refine EL.splitB (d := 38) rfl (fun hp38 => ?_) (fun hp38 => ?_)
      · refine .ps ?_; refine .ps ?_; refine .pt ?_; refine .mv ?_; refine .ps ?_; refine .ps ?_; refine .ps ?_; refine .ps ?_; refine .ps ?_; refine .ps ?_; refine .ps ?_; refine .pt ?_
        exact .dx () ⟨rfl, rfl, rfl, rfl, getA rfl (congrArg Value.bool (by rw [Bool.eq_iff_iff]; simp only [decide_eq_true_eq, true_iff, Bool.false_eq_true, false_iff]; omega)), trivial⟩
      · refine .mv ?_; refine .gt_ ?_; refine .pf ?_; refine .mv ?_
        first | refine EL.splitD (d := 42) rfl (fun hp42 => ?_) (fun hp42 => ?_) | refine EL.splitN (d := 42) rfl (fun hp42 => ?_) (fun hp42 => ?_) | refine EL.splitB (d := 42) rfl (fun hp42 => ?_) (fun hp42 => ?_)
        · refine .ps ?_; refine .ps ?_; refine .ps ?_; refine .ps ?_; refine .ps ?_; refine .ps ?_; refine .ps ?_; refine .pt ?_
          exact .dx () ⟨rfl, rfl, rfl, rfl, getA rfl (congrArg Value.bool (by rw [Bool.eq_iff_iff]; simp only [decide_eq_true_eq, true_iff, Bool.false_eq_true, false_iff]; omega)), trivial⟩
        · refine .mv ?_; refine .gq ?_; refine .mv ?_
          first | refine EL.splitD (d := 45) rfl (fun hp45 => ?_) (fun hp45 => ?_) | refine EL.splitN (d := 45) rfl (fun hp45 => ?_) (fun hp45 => ?_) | refine EL.splitB (d := 45) rfl (fun hp45 => ?_) (fun hp45 => ?_)
          · refine .mv ?_; refine .mv ?_; refine .ls ?_; refine .pt ?_; refine .pf ?_
            exact .dx () ⟨rfl, rfl, rfl, rfl, getA rfl (congrArg Value.bool (by rw [Bool.eq_iff_iff]; simp only [decide_eq_true_eq, true_iff, Bool.false_eq_true, false_iff]; omega)), trivial⟩
          · refine .ps ?_; refine .ps ?_; refine .ps ?_; refine .pf ?_; refine .pf ?_
            exact .dx () ⟨rfl, rfl, rfl, rfl, getA rfl (congrArg Value.bool (by rw [Bool.eq_iff_iff]; simp only [decide_eq_true_eq, true_iff, Bool.false_eq_true, false_iff]; omega)), trivial⟩
  refine ES.condD rfl (fun hc => ?_) (fun hc => ?_)
  · rw [if_pos hc] at hiv
    rw [hiv]
    refine .go ?_; (repeat constructor); refine .as_ ?_; refine .as_ ?_; refine .as_ ?_; refine .as_ ?_; refine .go ?_; repeat constructor
    exact PX.ret rfl Tryz.results98 (.cons (.tmp rfl) (.cons (.tmp rfl) (.cons (.tmp rfl) (.cons (.tmp rfl) .nil)))) (fun w hs => ⟨(), rfl, hs.ent (.i (by repeat constructor))⟩)
  rw [if_neg hc] at hiv
  refine .go ?_; repeat constructor
  refine EL.cutX (X := Unit) (fun _ => [(0, Sv t), (1, Iv (h2 : Nat)), (4, Iv l1), (5, Iv h1), (63, .bool (decide (t.length < h2 + 2 ∨ (t.drop h2).take 2 ≠ [92, 125])))]) (fun _ => []) ?_ (fun _ => ?_)
  · refine .go ?_; (repeat constructor); refine .mv ?_; refine EL.addN (n := 2) rfl rfl rfl rfl rfl (by omega) ?_; refine .mv ?_; refine .lS ?_; refine .gt_ ?_; refine .mv ?_
    first | refine EL.splitD (d := 56) rfl (fun hp56 => ?_) (fun hp56 => ?_) | refine EL.splitN (d := 56) rfl (fun hp56 => ?_) (fun hp56 => ?_) | refine EL.splitB (d := 56) rfl (fun hp56 => ?_) (fun hp56 => ?_)
    · refine .ps ?_; refine .ps ?_; refine .ps ?_; refine .ps ?_; refine .ps ?_; refine .ps ?_; refine .pt ?_
      exact .dx () ⟨rfl, rfl, rfl, rfl, getA rfl (congrArg Value.bool (by rw [Bool.eq_iff_iff]; simp only [decide_eq_true_eq, true_iff, Bool.not_eq_true', decide_eq_false_iff_not]; first | exact .inl (by omega) | exact ⟨fun hx => .inr (by rw [show h2 + 2 - h2 = 2 by omega] at hx; exact hx), fun hx => hx.elim (fun h => absurd h (by omega)) (fun h => by rw [show h2 + 2 - h2 = 2 by omega]; exact h)⟩)), trivial⟩
    · refine .mv ?_; refine .mv ?_; refine .mv ?_; refine EL.addN (n := 2) rfl rfl rfl rfl rfl (by omega) ?_; refine EL.sliceS rfl rfl rfl rfl rfl ⟨_, rfl⟩ ⟨_, rfl⟩ (by omega) (by omega) ?_; refine EL.neqS rfl rfl rfl rfl ?_; refine .pf ?_
      exact .dx () ⟨rfl, rfl, rfl, rfl, getA rfl (congrArg Value.bool (by rw [Bool.eq_iff_iff]; simp only [decide_eq_true_eq, true_iff, Bool.not_eq_true', decide_eq_false_iff_not]; first | exact .inl (by omega) | exact ⟨fun hx => .inr (by rw [show h2 + 2 - h2 = 2 by omega] at hx; exact hx), fun hx => hx.elim (fun h => absurd h (by omega)) (fun h => by rw [show h2 + 2 - h2 = 2 by omega]; exact h)⟩)), trivial⟩
  refine ES.condD rfl (fun hc2 => ?_) (fun hc2 => ?_)
  · rw [if_pos hc2] at hiv
    rw [hiv]
    refine .go ?_; (repeat constructor); refine .as_ ?_; refine .as_ ?_; refine .as_ ?_; refine .as_ ?_; refine .go ?_; repeat constructor
    exact PX.ret rfl Tryz.results98 (.cons (.tmp rfl) (.cons (.tmp rfl) (.cons (.tmp rfl) (.cons (.tmp rfl) .nil)))) (fun w hs => ⟨(), rfl, hs.ent (.i (by repeat constructor))⟩)
  · rw [if_neg hc2] at hiv
    rw [hiv]
    have hl1 : ((l1.toNat : Nat) : Int) = l1 := by omega
    refine .go ?_; (repeat constructor); refine .mv ?_; refine .mv ?_; refine .mv ?_; refine EL.addN (n := 2) rfl rfl rfl rfl rfl (by omega) ?_; refine .as_ ?_; refine .as_ ?_; refine .as_ ?_; refine .as_ ?_; refine .go ?_; repeat constructor
    refine PX.ret rfl Tryz.results98 (.cons (.tmp rfl) (.cons (.tmp rfl) (.cons (.tmp rfl) (.cons (.tmp rfl) .nil)))) (fun w hs => ⟨(), ?_, hs.ent (.i (by repeat constructor))⟩)
    simp only [ivV, hl1]
    rfl
theorem alnum_c (b : UInt8) (w : World) : Pure Tryz.prog 99 #[Uv b] (fun _ : Unit => .bool (isAln b)) (fun _ => []) w := by
  have hd := isDig_int b
  refine calls_of_ES TB Tryz.func99 rfl _ Tryz.ntmps99 rfl (Sat.start w) ?_; refine .go ?_; (repeat constructor); refine .as_ ?_; refine .go ?_; repeat constructor
  refine EL.cutX (X := Unit) (fun _ => [(2, .bool (isAln b))]) (fun _ => []) ?_ (fun _ => ?_)
  · refine .go ?_; (repeat constructor); refine .mv ?_; refine .gq ?_; refine .mv ?_
    first | refine EL.splitD (d := 5) rfl (fun hp5 => ?_) (fun hp5 => ?_) | refine EL.splitN (d := 5) rfl (fun hp5 => ?_) (fun hp5 => ?_) | refine EL.splitB (d := 5) rfl (fun hp5 => ?_) (fun hp5 => ?_)
    · refine .mv ?_; refine .lq ?_; refine .pt ?_; refine .mv ?_
      first | refine EL.splitD (d := 9) rfl (fun hp9 => ?_) (fun hp9 => ?_) | refine EL.splitN (d := 9) rfl (fun hp9 => ?_) (fun hp9 => ?_) | refine EL.splitB (d := 9) rfl (fun hp9 => ?_) (fun hp9 => ?_)
      · refine .ps ?_; refine .ps ?_; refine .ps ?_; refine .ps ?_; refine .ps ?_; refine .ps ?_; refine .ps ?_; refine .ps ?_; refine .pt ?_; refine .as_ ?_
        exact .dx () ⟨getA rfl (congrArg Value.bool (by unfold isAln; rw [hd, Bool.eq_iff_iff]; simp only [decide_eq_true_eq, true_iff, Bool.false_eq_true, false_iff, Bool.or_eq_true, Bool.and_eq_true, not_or, not_and]; omega)), trivial⟩
      · refine .mv ?_; refine EL.orU8 32 rfl rfl rfl rfl rfl ?_; refine .gq ?_; refine .mv ?_
        first | refine EL.splitD (d := 13) rfl (fun hp13 => ?_) (fun hp13 => ?_) | refine EL.splitN (d := 13) rfl (fun hp13 => ?_) (fun hp13 => ?_) | refine EL.splitB (d := 13) rfl (fun hp13 => ?_) (fun hp13 => ?_)
        · refine .mv ?_; refine EL.orU8 32 rfl rfl rfl rfl rfl ?_; refine .lq ?_; refine .pt ?_; refine .pf ?_; refine .as_ ?_
          exact .dx () ⟨getA rfl (congrArg Value.bool (by unfold isAln; rw [hd, Bool.eq_iff_iff]; simp only [decide_eq_true_eq, true_iff, Bool.false_eq_true, false_iff, Bool.or_eq_true, Bool.and_eq_true, not_or, not_and]; omega)), trivial⟩
        · refine .ps ?_; refine .ps ?_; refine .ps ?_; refine .pf ?_; refine .pf ?_; refine .as_ ?_
          exact .dx () ⟨getA rfl (congrArg Value.bool (by unfold isAln; rw [hd, Bool.eq_iff_iff]; simp only [decide_eq_true_eq, true_iff, Bool.false_eq_true, false_iff, Bool.or_eq_true, Bool.and_eq_true, not_or, not_and]; omega)), trivial⟩
    · refine .ps ?_; refine .ps ?_; refine .pf ?_; refine .mv ?_; refine .mv ?_; refine EL.orU8 32 rfl rfl rfl rfl rfl ?_; refine .gq ?_; refine .mv ?_
      first | refine EL.splitD (d := 13) rfl (fun hp13 => ?_) (fun hp13 => ?_) | refine EL.splitN (d := 13) rfl (fun hp13 => ?_) (fun hp13 => ?_) | refine EL.splitB (d := 13) rfl (fun hp13 => ?_) (fun hp13 => ?_)
      · refine .mv ?_; refine EL.orU8 32 rfl rfl rfl rfl rfl ?_; refine .lq ?_; refine .pt ?_; refine .pf ?_; refine .as_ ?_
        exact .dx () ⟨getA rfl (congrArg Value.bool (by unfold isAln; rw [hd, Bool.eq_iff_iff]; simp only [decide_eq_true_eq, true_iff, Bool.false_eq_true, false_iff, Bool.or_eq_true, Bool.and_eq_true, not_or, not_and]; omega)), trivial⟩
      · refine .ps ?_; refine .ps ?_; refine .ps ?_; refine .pf ?_; refine .pf ?_; refine .as_ ?_
        exact .dx () ⟨getA rfl (congrArg Value.bool (by unfold isAln; rw [hd, Bool.eq_iff_iff]; simp only [decide_eq_true_eq, true_iff, Bool.false_eq_true, false_iff, Bool.or_eq_true, Bool.and_eq_true, not_or, not_and]; omega)), trivial⟩
  refine .go ?_; repeat constructor
  exact PX.ret rfl Tryz.results99 (.cons (.tmp rfl) .nil) (fun w hs => ⟨(), rfl, hs.ent (.i (by repeat constructor))⟩)
def tokCells (k : Tok) : Array Value := #[Iv (k.kind : Nat), Iv (k.at_ : Nat), Wv k.set.a, Wv k.set.b, Wv k.set.c, Wv k.set.d, Iv k.lo, Iv k.hi, Iv k.e]
abbrev tokV (k : Tok) : Value := .agg (tokCells k)
theorem bad_c (a : Nat) (e : Int) (w : World) : Pure Tryz.prog 82 #[Iv (a : Nat), Iv e] (fun _ : Unit => tokV (badT a e)) (fun _ => []) w := by
  refine calls_of_ES TB Tryz.func82 rfl _ Tryz.ntmps82 rfl (Sat.start w) ?_; refine .go ?_; (repeat constructor); (refine .al ?_; intro g4); refine .go ?_; (repeat constructor); refine .mv ?_; refine .mv ?_; refine EL.buildS (tokCells (badT a e)) rfl rfl rfl rfl rfl rfl rfl ?_; refine .sa ?_; refine .go ?_; repeat constructor
  exact PX.ret rfl Tryz.results82 (.cons (.blkA rfl rfl rfl (by repeat constructor) rfl) .nil) (fun w hs => ⟨(), rfl, hs.ent (.i (by repeat constructor))⟩)
theorem one_c (a : Nat) (b : UInt8) (w : World) : Pure Tryz.prog 83 #[Iv (a : Nat), Uv b] (fun _ : Unit => tokV (oneT a b)) (fun _ => []) w := by
  refine calls_of_ES TB Tryz.func83 rfl _ Tryz.ntmps83 rfl (Sat.start w) ?_; refine .go ?_; (repeat constructor); (refine .al ?_; intro g4); refine .go ?_; (repeat constructor); refine .mv ?_; refine .mv ?_; (refine .b1 ?_; intro b7); refine EL.bytesS (bs := [b]) rfl rfl rfl rfl rfl rfl rfl rfl rfl (by repeat constructor) ?_; refine EL.callP rfl rfl rfl ent102 rfl (of_c [b] (by simp)) ?_; refine EL.buildS (tokCells (oneT a b)) rfl rfl rfl rfl rfl rfl rfl ?_; refine .sa ?_; refine .go ?_; repeat constructor
  exact PX.ret rfl Tryz.results83 (.cons (.blkA rfl rfl rfl (by repeat constructor) rfl) .nil) (fun w hs => ⟨(), rfl, hs.ent (.i (by repeat constructor))⟩)
theorem escT_at (t : List UInt8) (a : Nat) (b : Bool) (ha : a < t.length) : (escT t a b).1.kind ≠ 7 → a < (escT t a b).2 ∧ (escT t a b).2 ≤ t.length := by
  unfold escT
  dsimp only
  split
  · intro h; exact absurd rfl h
  repeat' split
  all_goals (intro h; first | exact absurd rfl h | (simp only; omega) | skip)
  rename_i lo hi n h2 h3
  have := iv_le h2
  simp only; omega
theorem readT_at (t : List UInt8) (a : Nat) (f b : Bool) (ha : a < t.length) : (readT t a f b).1.kind ≠ 7 → a < (readT t a f b).2 ∧ (readT t a f b).2 ≤ t.length := by
  unfold readT
  dsimp only
  split
  · exact escT_at t a b ha
  · split
    · split
      · intro h; exact absurd rfl h
      · rename_i h1
        intro _
        have := brack_next t a (by simpa using h1)
        simp only; omega
    · repeat' split
      all_goals (intro _; simp only; omega)
theorem escaped_c (t : List UInt8) (a : Nat) (bg : Bool) (ha : a < t.length) (ht : t.length ≤ 1073741824) (w : World) :
    Pure Tryz.prog 80 #[Sv t, Iv (a : Nat), .bool bg] (fun _ : Unit => .tuple #[tokV (escT t a bg).1, Iv ((escT t a bg).2 : Nat)]) (fun _ => []) w := by
  have hesc : escT t a bg = (if a + 1 = t.length then (badT a 6, a)
    else
      let b := t.getD (a + 1) 0
      if b.toNat = 40 then (⟨3, a, zeroS, 0, 0, 0⟩, a + 2)
      else if b.toNat = 41 then (⟨4, a, zeroS, 0, 0, 0⟩, a + 2)
      else if b.toNat = 123 then
        match ivM t (a + 2) with
        | none => (badT a 9, a)
        | some (lo, hi, n) => if bg = true then (badT a 9, a) else (⟨5, a, zeroS, (lo : Int), hi, 0⟩, n)
      else if b.toNat = 125 then (badT a 9, a)
      else if b.toNat = 110 then (oneT a 10, a + 2)
      else if 49 ≤ b.toNat ∧ b.toNat ≤ 57 then (⟨6, a, zeroS, ((b.toNat - 48 : Nat) : Int), 0, 0⟩, a + 2)
      else if isAln b = true then (badT a 12, a)
      else (oneT a b, a + 2)) := rfl
  obtain ⟨b, hb⟩ : ∃ b, b = t.getD (a + 1) 0 := ⟨_, rfl⟩
  have hb8 := b.toNat_lt
  rw [← hb] at hesc
  dsimp only at hesc
  generalize escT t a bg = r at hesc ⊢
  refine calls_of_ES TB Tryz.func80 rfl _ Tryz.ntmps80 rfl (Sat.start w) ?_; refine .go ?_; (repeat constructor); (refine .al ?_; intro g6); refine .as_ ?_; refine .go ?_; (repeat constructor); refine .mv ?_; refine .a1 ?_; refine .mv ?_; refine .lS ?_; refine .ei ?_; refine .go ?_; repeat constructor
  refine ES.condD rfl (fun he => ?_) (fun hne => ?_)
  · rw [if_pos (by omega)] at hesc
    subst hesc
    refine .go ?_; (repeat constructor); refine .mv ?_; refine EL.callP rfl rfl rfl ent82 rfl (bad_c a 6) ?_; refine .mv ?_; refine .sa ?_; refine .as_ ?_; refine .go ?_; repeat constructor
    exact PX.ret rfl Tryz.results80 (.cons (.blkA rfl rfl rfl (by repeat constructor) rfl) (.cons (.tmp rfl) .nil)) (fun w hs => ⟨(), rfl, hs.ent (.i (by repeat constructor))⟩)
  rw [if_neg (by omega)] at hesc
  have hlt : a + 1 < t.length := by omega
  refine .go ?_; (repeat constructor); refine .mv ?_; refine .mv ?_; refine .a1 ?_; refine .iS ?_; refine EL.rew (d := 24) (v' := Uv b) rfl (by rw [hb]) ?_; refine .as_ ?_; refine .go ?_; (repeat constructor); refine .go ?_; (repeat constructor); refine .mv ?_; refine .ei ?_; refine .as_ ?_; refine .go ?_; repeat constructor
  refine ES.condD rfl (fun h1 => ?_) (fun h1 => ?_)
  · rw [if_pos (by omega)] at hesc
    subst hesc
    refine .go ?_; (repeat constructor); refine .mv ?_; refine EL.buildS (tokCells ⟨3, a, zeroS, 0, 0, 0⟩) rfl rfl rfl rfl rfl rfl rfl ?_; refine .mv ?_; refine EL.addN (n := 2) rfl rfl rfl rfl rfl (by omega) ?_; refine .sa ?_; refine .as_ ?_; refine .go ?_; repeat constructor
    exact PX.ret rfl Tryz.results80 (.cons (.blkA rfl rfl rfl (by repeat constructor) rfl) (.cons (.tmp rfl) .nil)) (fun w hs => ⟨(), rfl, hs.ent (.i (by repeat constructor))⟩)
  rw [if_neg (by omega)] at hesc
  refine .go ?_; (repeat constructor); refine .mv ?_; refine .ei ?_; refine .as_ ?_; refine .go ?_; repeat constructor
  refine ES.condD rfl (fun h2 => ?_) (fun h2 => ?_)
  · rw [if_pos (by omega)] at hesc
    subst hesc
    refine .go ?_; (repeat constructor); refine .mv ?_; refine EL.buildS (tokCells ⟨4, a, zeroS, 0, 0, 0⟩) rfl rfl rfl rfl rfl rfl rfl ?_; refine .mv ?_; refine EL.addN (n := 2) rfl rfl rfl rfl rfl (by omega) ?_; refine .sa ?_; refine .as_ ?_; refine .go ?_; repeat constructor
    exact PX.ret rfl Tryz.results80 (.cons (.blkA rfl rfl rfl (by repeat constructor) rfl) (.cons (.tmp rfl) .nil)) (fun w hs => ⟨(), rfl, hs.ent (.i (by repeat constructor))⟩)
  rw [if_neg (by omega)] at hesc
  refine .go ?_; (repeat constructor); refine .mv ?_; refine .ei ?_; refine .as_ ?_; refine .go ?_; repeat constructor
  refine ES.condD rfl (fun h3 => ?_) (fun h3 => ?_)
  · rw [if_pos (by omega)] at hesc
    have hic := interval_c t (a + 2) (by omega) ht
    cases hiv : ivM t (a + 2) with
    | none =>
      rw [hiv] at hesc hic
      dsimp only at hesc
      subst hesc
      refine .go ?_; (repeat constructor); refine .mv ?_; refine .mv ?_; refine EL.addN (n := 2) rfl rfl rfl rfl rfl (by omega) ?_; refine EL.callP rfl rfl rfl ent98 rfl hic ?_; refine .mv ?_; refine .ex ?_; refine .ex ?_; refine .ex ?_; refine .ex ?_; refine .as_ ?_; refine .as_ ?_; refine .as_ ?_; refine .as_ ?_; refine .go ?_; (repeat constructor); refine .mv ?_; refine .nt ?_; refine .mv ?_
      refine EL.rew (d := 58) (v' := .bool true) rfl (by first | rfl | (decide) | (simp)) ?_
      refine .ps ?_; refine .pt ?_; refine .go ?_; (repeat constructor); refine ES.condT rfl ?_; refine .go ?_; (repeat constructor); refine .mv ?_; refine EL.callP rfl rfl rfl ent82 rfl (bad_c a 9) ?_; refine .mv ?_; refine .sa ?_; refine .as_ ?_; refine .go ?_; repeat constructor
      exact PX.ret rfl Tryz.results80 (.cons (.blkA rfl rfl rfl (by repeat constructor) rfl) (.cons (.tmp rfl) .nil)) (fun w hs => ⟨(), rfl, hs.ent (.i (by repeat constructor))⟩)
    | some x =>
      obtain ⟨lo, hi, n⟩ := x
      have hle := iv_le hiv
      rw [hiv] at hesc hic
      dsimp only at hesc
      refine .go ?_; (repeat constructor); refine .mv ?_; refine .mv ?_; refine EL.addN (n := 2) rfl rfl rfl rfl rfl (by omega) ?_; refine EL.callP rfl rfl rfl ent98 rfl hic ?_; refine .mv ?_; refine .ex ?_; refine .ex ?_; refine .ex ?_; refine .ex ?_; refine .as_ ?_; refine .as_ ?_; refine .as_ ?_; refine .as_ ?_; refine .go ?_; (repeat constructor); refine .mv ?_; refine .nt ?_; refine .mv ?_
      refine EL.rew (d := 58) (v' := .bool false) rfl (by first | rfl | (decide) | (simp)) ?_
      refine .mv ?_; refine .pf ?_; refine .go ?_; repeat constructor
      refine ES.cond rfl (fun hbg => ?_) (fun hbg => ?_)
      · rw [if_pos hbg] at hesc
        subst hesc
        refine .go ?_; (repeat constructor); refine .mv ?_; refine EL.callP rfl rfl rfl ent82 rfl (bad_c a 9) ?_; refine .mv ?_; refine .sa ?_; refine .as_ ?_; refine .go ?_; repeat constructor
        exact PX.ret rfl Tryz.results80 (.cons (.blkA rfl rfl rfl (by repeat constructor) rfl) (.cons (.tmp rfl) .nil)) (fun w hs => ⟨(), rfl, hs.ent (.i (by repeat constructor))⟩)
      · rw [if_neg (by rw [hbg]; decide)] at hesc
        subst hesc
        refine .go ?_; (repeat constructor); refine .mv ?_; refine .mv ?_; refine .mv ?_; refine EL.buildS (tokCells ⟨5, a, zeroS, (lo : Int), hi, 0⟩) rfl rfl rfl rfl rfl rfl rfl ?_; refine .mv ?_; refine .sa ?_; refine .as_ ?_; refine .go ?_; repeat constructor
        exact PX.ret rfl Tryz.results80 (.cons (.blkA rfl rfl rfl (by repeat constructor) rfl) (.cons (.tmp rfl) .nil)) (fun w hs => ⟨(), rfl, hs.ent (.i (by repeat constructor))⟩)
  rw [if_neg (by omega)] at hesc
  refine .go ?_; (repeat constructor); refine .mv ?_; refine .ei ?_; refine .as_ ?_; refine .go ?_; repeat constructor
  refine ES.condD rfl (fun h4 => ?_) (fun h4 => ?_)
  · rw [if_pos (by omega)] at hesc
    subst hesc
    refine .go ?_; (repeat constructor); refine .mv ?_; refine EL.callP rfl rfl rfl ent82 rfl (bad_c a 9) ?_; refine .mv ?_; refine .sa ?_; refine .as_ ?_; refine .go ?_; repeat constructor
    exact PX.ret rfl Tryz.results80 (.cons (.blkA rfl rfl rfl (by repeat constructor) rfl) (.cons (.tmp rfl) .nil)) (fun w hs => ⟨(), rfl, hs.ent (.i (by repeat constructor))⟩)
  rw [if_neg (by omega)] at hesc
  refine .go ?_; (repeat constructor); refine .mv ?_; refine .ei ?_; refine .as_ ?_; refine .go ?_; repeat constructor
  refine ES.condD rfl (fun h5 => ?_) (fun h5 => ?_)
  · rw [if_pos (by omega)] at hesc
    subst hesc
    refine .go ?_; (repeat constructor); refine .mv ?_; refine EL.callP rfl rfl rfl ent83 rfl (one_c a 10) ?_; refine .mv ?_; refine EL.addN (n := 2) rfl rfl rfl rfl rfl (by omega) ?_; refine .sa ?_; refine .as_ ?_; refine .go ?_; repeat constructor
    exact PX.ret rfl Tryz.results80 (.cons (.blkA rfl rfl rfl (by repeat constructor) rfl) (.cons (.tmp rfl) .nil)) (fun w hs => ⟨(), rfl, hs.ent (.i (by repeat constructor))⟩)
  rw [if_neg (by omega)] at hesc
  refine .go ?_; repeat constructor
  refine EL.cutX (X := Unit) (fun _ => [(0, Sv t), (1, Iv (a : Nat)), (6, Pv g6 0), (8, Uv b), (82, .bool (decide (49 ≤ b.toNat ∧ b.toNat ≤ 57)))]) (fun _ => [HA.blk g6 (.cells #[.int .i64 0, .int .i64 0, .int .u64 0, .int .u64 0, .int .u64 0, .int .u64 0, .int .i64 0, .int .i64 0, .int .i64 0] 112)]) ?_ (fun _ => ?_)
  · refine .go ?_; (repeat constructor); refine .mv ?_; refine .gq ?_; refine .mv ?_
    first | refine EL.splitD (d := 85) rfl (fun hp85 => ?_) (fun hp85 => ?_) | refine EL.splitN (d := 85) rfl (fun hp85 => ?_) (fun hp85 => ?_) | refine EL.splitB (d := 85) rfl (fun hp85 => ?_) (fun hp85 => ?_)
    · refine .mv ?_; refine .lq ?_; refine .pt ?_; refine .as_ ?_
      exact .dx () ⟨rfl, rfl, rfl, rfl, getA rfl (congrArg Value.bool (by rw [Bool.eq_iff_iff]; simp only [decide_eq_true_eq, true_iff, Bool.false_eq_true, false_iff]; omega)), trivial⟩
    · refine .ps ?_; refine .ps ?_; refine .pf ?_; refine .as_ ?_
      exact .dx () ⟨rfl, rfl, rfl, rfl, getA rfl (congrArg Value.bool (by rw [Bool.eq_iff_iff]; simp only [decide_eq_true_eq, true_iff, Bool.false_eq_true, false_iff]; omega)), trivial⟩
  refine ES.condD rfl (fun h6 => ?_) (fun h6 => ?_)
  · rw [if_pos h6] at hesc
    subst hesc
    refine .go ?_; (repeat constructor); refine .mv ?_; refine .mv ?_
    refine EL.ofRV (RV.subK (n := 48) rfl rfl (by omega) (by simp only [kmax]; omega)) rfl rfl rfl (by intro c h; cases h) ?_
    refine EL.convN rfl rfl rfl rfl rfl rfl (by simp only [kmax]; omega) ?_
    refine EL.buildS (tokCells ⟨6, a, zeroS, ((b.toNat - 48 : Nat) : Int), 0, 0⟩) rfl rfl rfl rfl rfl rfl rfl ?_; refine .mv ?_; refine EL.addN (n := 2) rfl rfl rfl rfl rfl (by omega) ?_; refine .sa ?_; refine .as_ ?_; refine .go ?_; repeat constructor
    exact PX.ret rfl Tryz.results80 (.cons (.blkA rfl rfl rfl (by repeat constructor) rfl) (.cons (.tmp rfl) .nil)) (fun w hs => ⟨(), rfl, hs.ent (.i (by repeat constructor))⟩)
  rw [if_neg h6] at hesc
  refine .go ?_; (repeat constructor); refine .mv ?_; refine EL.callP rfl rfl rfl ent99 rfl (alnum_c b) ?_; refine .as_ ?_; refine .go ?_; repeat constructor
  refine ES.cond rfl (fun h7 => ?_) (fun h7 => ?_)
  · rw [if_pos h7] at hesc
    subst hesc
    refine .go ?_; (repeat constructor); refine .mv ?_; refine EL.callP rfl rfl rfl ent82 rfl (bad_c a 12) ?_; refine .mv ?_; refine .sa ?_; refine .as_ ?_; refine .go ?_; repeat constructor
    exact PX.ret rfl Tryz.results80 (.cons (.blkA rfl rfl rfl (by repeat constructor) rfl) (.cons (.tmp rfl) .nil)) (fun w hs => ⟨(), rfl, hs.ent (.i (by repeat constructor))⟩)
  · rw [if_neg (by rw [h7]; decide)] at hesc
    subst hesc
    refine .go ?_; (repeat constructor); refine .mv ?_; refine .mv ?_; refine EL.callP rfl rfl rfl ent83 rfl (one_c a b) ?_; refine .mv ?_; refine EL.addN (n := 2) rfl rfl rfl rfl rfl (by omega) ?_; refine .sa ?_; refine .as_ ?_; refine .go ?_; repeat constructor
    exact PX.ret rfl Tryz.results80 (.cons (.blkA rfl rfl rfl (by repeat constructor) rfl) (.cons (.tmp rfl) .nil)) (fun w hs => ⟨(), rfl, hs.ent (.i (by repeat constructor))⟩)
theorem readTok_c (t : List UInt8) (a : Nat) (fi bg : Bool) (ha : a < t.length) (ht : t.length ≤ 1073741824) (w : World) (hG : GR w w.heap.size) :
    Pure Tryz.prog 54 #[Sv t, Iv (a : Nat), .bool fi, .bool bg] (fun _ : Unit => .tuple #[tokV (readT t a fi bg).1, Iv ((readT t a fi bg).2 : Nat)]) (fun _ => []) w := by
  have hrd : readT t a fi bg = (let b := t.getD a 0
    if b.toNat = 92 then escT t a bg
    else if b.toNat = 91 then (if (brackM t a).e ≠ 0 then (badT a (brackM t a).e, a) else (byteT a (brackM t a).set, (brackM t a).at_))
    else if b.toNat = 46 then (byteT a (notS zeroS), a + 1)
    else if b.toNat = 42 ∧ bg = false then (⟨5, a, zeroS, 0, -1, 0⟩, a + 1)
    else if b.toNat = 94 ∧ fi = true then (⟨1, a, zeroS, 0, 0, 0⟩, a + 1)
    else if b.toNat = 36 ∧ eolM t a = true then (⟨2, a, zeroS, 0, 0, 0⟩, a + 1)
    else (oneT a b, a + 1)) := rfl
  obtain ⟨b, hb⟩ : ∃ b, b = t.getD a 0 := ⟨_, rfl⟩
  have hb8 := b.toNat_lt
  rw [← hb] at hrd
  dsimp only at hrd
  generalize readT t a fi bg = r at hrd ⊢
  refine calls_of_ES TB Tryz.func54 rfl _ Tryz.ntmps54 rfl (Sat.start w) ?_; refine .go ?_; (repeat constructor); (refine .al ?_; intro g8); refine .as_ ?_; refine .go ?_; (repeat constructor); refine .go ?_; (repeat constructor); refine .mv ?_; refine .mv ?_; refine .iS ?_; refine EL.rew (d := 16) (v' := Uv b) rfl (by rw [hb]) ?_; refine .as_ ?_; refine .go ?_; (repeat constructor); refine .go ?_; (repeat constructor); refine .mv ?_; refine .ei ?_; refine .as_ ?_; refine .go ?_; repeat constructor
  refine ES.condD rfl (fun h1 => ?_) (fun h1 => ?_)
  · rw [if_pos (by omega)] at hrd
    subst hrd
    refine .go ?_; (repeat constructor); refine .mv ?_; refine .mv ?_; refine .mv ?_; refine EL.callP rfl rfl rfl ent80 rfl (escaped_c t a bg ha ht) ?_; refine .ex ?_; refine .ex ?_; refine .sa ?_; refine .as_ ?_; refine .go ?_; repeat constructor
    exact PX.ret rfl Tryz.results54 (.cons (.blkA rfl rfl rfl (by repeat constructor) rfl) (.cons (.tmp rfl) .nil)) (fun w hs => ⟨(), rfl, hs.ent (.i (by repeat constructor))⟩)
  rw [if_neg (by omega)] at hrd
  refine .go ?_; (repeat constructor); refine .mv ?_; refine .ei ?_; refine .as_ ?_; refine .go ?_; repeat constructor
  refine ES.condD rfl (fun h2 => ?_) (fun h2 => ?_)
  · rw [if_pos (by omega)] at hrd
    have hbp := brParse_c t a ht (by omega)
    generalize brackM t a = q at hrd hbp
    obtain ⟨⟨s0, s1, s2, s3⟩, qa, qe⟩ := q
    dsimp only at hrd hbp
    refine .go ?_; (repeat constructor); refine .mv ?_; refine .mv ?_; refine EL.callPw rfl rfl rfl ent81 rfl (fun w hs => hbp w (GR.sat hG hs)) ?_; refine .mv ?_; refine .ex ?_; refine .ex ?_; refine .ex ?_; (refine .al ?_; intro g11); refine .sa ?_; refine .as_ ?_; refine .as_ ?_; refine .go ?_; (repeat constructor); refine .mv ?_; refine .ni ?_; refine .go ?_; repeat constructor
    refine ES.condN rfl (fun h3 => ?_) (fun h3 => ?_)
    · rw [if_pos h3] at hrd
      subst hrd
      refine .go ?_; (repeat constructor); refine .mv ?_; refine .mv ?_; refine EL.callP rfl rfl rfl ent82 rfl (bad_c a qe) ?_; refine .mv ?_; refine .sa ?_; refine .as_ ?_; refine .go ?_; repeat constructor
      exact PX.ret rfl Tryz.results54 (.cons (.blkA rfl rfl rfl (by repeat constructor) rfl) (.cons (.tmp rfl) .nil)) (fun w hs => ⟨(), rfl, hs.ent (.i (by repeat constructor))⟩)
    · rw [if_neg (by simpa using h3)] at hrd
      subst hrd
      refine .go ?_; (repeat constructor); refine .mv ?_; refine .lg ?_; refine EL.buildS (tokCells (byteT a ⟨s0, s1, s2, s3⟩)) rfl rfl rfl rfl rfl rfl rfl ?_; refine .mv ?_; refine .sa ?_; refine .as_ ?_; refine .go ?_; repeat constructor
      exact PX.ret rfl Tryz.results54 (.cons (.blkA rfl rfl rfl (by repeat constructor) rfl) (.cons (.tmp rfl) .nil)) (fun w hs => ⟨(), rfl, hs.ent (.i (by repeat constructor))⟩)
  rw [if_neg (by omega)] at hrd
  refine .go ?_; (repeat constructor); refine .mv ?_; refine .ei ?_; refine .as_ ?_; refine .go ?_; repeat constructor
  refine ES.condD rfl (fun h3 => ?_) (fun h3 => ?_)
  · rw [if_pos (by omega)] at hrd
    subst hrd
    refine .go ?_; (repeat constructor); refine .mv ?_; refine EL.buildZA rfl rfl rfl rfl rfl ?_; refine EL.callP rfl rfl rfl ent65 rfl (not_c zeroS) ?_; refine EL.buildS (tokCells (byteT a (notS zeroS))) rfl rfl rfl rfl rfl rfl rfl ?_; refine .mv ?_; refine .a1 ?_; refine .sa ?_; refine .as_ ?_; refine .go ?_; repeat constructor
    exact PX.ret rfl Tryz.results54 (.cons (.blkA rfl rfl rfl (by repeat constructor) rfl) (.cons (.tmp rfl) .nil)) (fun w hs => ⟨(), rfl, hs.ent (.i (by repeat constructor))⟩)
  rw [if_neg (by omega)] at hrd
  refine .go ?_; repeat constructor
  refine EL.cutX (X := Unit) (fun _ => [(0, Sv t), (1, Iv (a : Nat)), (2, .bool fi), (8, Pv g8 0), (10, Uv b), (60, .bool (decide ((b.toNat : Int) = 42) && !bg))]) (fun _ => [HA.blk g8 (.cells #[.int .i64 0, .int .i64 0, .int .u64 0, .int .u64 0, .int .u64 0, .int .u64 0, .int .i64 0, .int .i64 0, .int .i64 0] 112)]) ?_ (fun _ => ?_)
  · refine .go ?_; (repeat constructor); refine .mv ?_; refine .ei ?_; refine .mv ?_
    first | refine EL.splitD (d := 63) rfl (fun hp63 => ?_) (fun hp63 => ?_) | refine EL.splitN (d := 63) rfl (fun hp63 => ?_) (fun hp63 => ?_) | refine EL.splitB (d := 63) rfl (fun hp63 => ?_) (fun hp63 => ?_)
    · refine .mv ?_; refine .nt ?_; refine .pt ?_; refine .as_ ?_
      exact .dx () ⟨rfl, rfl, rfl, rfl, rfl, getA rfl (congrArg Value.bool (by simp_all)), trivial⟩
    · refine .ps ?_; refine .ps ?_; refine .pf ?_; refine .as_ ?_
      exact .dx () ⟨rfl, rfl, rfl, rfl, rfl, getA rfl (congrArg Value.bool (by simp_all)), trivial⟩
  refine ES.cond rfl (fun h4 => ?_) (fun h4 => ?_)
  · rw [Bool.and_eq_true, decide_eq_true_eq] at h4
    rw [if_pos ⟨by omega, by simpa using h4.2⟩] at hrd
    subst hrd
    refine .go ?_; (repeat constructor); refine .mv ?_; refine EL.buildS (tokCells ⟨5, a, zeroS, 0, -1, 0⟩) rfl rfl rfl rfl rfl rfl rfl ?_; refine .mv ?_; refine .a1 ?_; refine .sa ?_; refine .as_ ?_; refine .go ?_; repeat constructor
    exact PX.ret rfl Tryz.results54 (.cons (.blkA rfl rfl rfl (by repeat constructor) rfl) (.cons (.tmp rfl) .nil)) (fun w hs => ⟨(), rfl, hs.ent (.i (by repeat constructor))⟩)
  rw [if_neg (by rintro ⟨h5, h6⟩; rw [decide_eq_true (by omega), h6] at h4; cases h4)] at hrd
  refine .go ?_; repeat constructor
  refine EL.cutX (X := Unit) (fun _ => [(0, Sv t), (1, Iv (a : Nat)), (8, Pv g8 0), (10, Uv b), (71, .bool (decide ((b.toNat : Int) = 94) && fi))]) (fun _ => [HA.blk g8 (.cells #[.int .i64 0, .int .i64 0, .int .u64 0, .int .u64 0, .int .u64 0, .int .u64 0, .int .i64 0, .int .i64 0, .int .i64 0] 112)]) ?_ (fun _ => ?_)
  · refine .go ?_; (repeat constructor); refine .mv ?_; refine .ei ?_; refine .mv ?_
    first | refine EL.splitD (d := 74) rfl (fun hp74 => ?_) (fun hp74 => ?_) | refine EL.splitN (d := 74) rfl (fun hp74 => ?_) (fun hp74 => ?_) | refine EL.splitB (d := 74) rfl (fun hp74 => ?_) (fun hp74 => ?_)
    · refine .mv ?_; refine .pt ?_; refine .as_ ?_
      exact .dx () ⟨rfl, rfl, rfl, rfl, getA rfl (congrArg Value.bool (by simp_all)), trivial⟩
    · refine .ps ?_; refine .pf ?_; refine .as_ ?_
      exact .dx () ⟨rfl, rfl, rfl, rfl, getA rfl (congrArg Value.bool (by simp_all)), trivial⟩
  refine ES.cond rfl (fun h5 => ?_) (fun h5 => ?_)
  · rw [Bool.and_eq_true, decide_eq_true_eq] at h5
    rw [if_pos ⟨by omega, h5.2⟩] at hrd
    subst hrd
    refine .go ?_; (repeat constructor); refine .mv ?_; refine EL.buildS (tokCells ⟨1, a, zeroS, 0, 0, 0⟩) rfl rfl rfl rfl rfl rfl rfl ?_; refine .mv ?_; refine .a1 ?_; refine .sa ?_; refine .as_ ?_; refine .go ?_; repeat constructor
    exact PX.ret rfl Tryz.results54 (.cons (.blkA rfl rfl rfl (by repeat constructor) rfl) (.cons (.tmp rfl) .nil)) (fun w hs => ⟨(), rfl, hs.ent (.i (by repeat constructor))⟩)
  rw [if_neg (by rintro ⟨h6, h7⟩; rw [decide_eq_true (by omega), h7] at h5; cases h5)] at hrd
  refine .go ?_; repeat constructor
  refine EL.cutX (X := Unit) (fun _ => [(0, Sv t), (1, Iv (a : Nat)), (8, Pv g8 0), (10, Uv b), (81, .bool (decide ((b.toNat : Int) = 36) && eolM t a))]) (fun _ => [HA.blk g8 (.cells #[.int .i64 0, .int .i64 0, .int .u64 0, .int .u64 0, .int .u64 0, .int .u64 0, .int .i64 0, .int .i64 0, .int .i64 0] 112)]) ?_ (fun _ => ?_)
  · refine .go ?_; (repeat constructor); refine .mv ?_; refine .ei ?_; refine .mv ?_
    first | refine EL.splitD (d := 84) rfl (fun hp84 => ?_) (fun hp84 => ?_) | refine EL.splitN (d := 84) rfl (fun hp84 => ?_) (fun hp84 => ?_) | refine EL.splitB (d := 84) rfl (fun hp84 => ?_) (fun hp84 => ?_)
    · refine .mv ?_; refine .a1 ?_; refine .mv ?_; refine .lS ?_; refine .ei ?_; refine .mv ?_
      first | refine EL.splitD (d := 90) rfl (fun hp90 => ?_) (fun hp90 => ?_) | refine EL.splitN (d := 90) rfl (fun hp90 => ?_) (fun hp90 => ?_) | refine EL.splitB (d := 90) rfl (fun hp90 => ?_) (fun hp90 => ?_)
      · refine .ps ?_; refine .ps ?_; refine .ps ?_; refine .ps ?_; refine .ps ?_; refine .ps ?_; refine .ps ?_; refine .ps ?_; refine .ps ?_; refine .ps ?_; refine .ps ?_; refine .ps ?_; refine .ps ?_; refine .ps ?_; refine .pt ?_; refine .pt ?_; refine .as_ ?_
        exact .dx () ⟨rfl, rfl, rfl, rfl, getA rfl (congrArg Value.bool (by unfold eolM; rw [Bool.eq_iff_iff]; simp only [decide_eq_true_eq, Bool.and_eq_true, Bool.or_eq_true, true_iff, Bool.false_eq_true, false_iff]; first | omega | exact ⟨by omega, .inl (by omega)⟩ | (rw [show a + 3 - (a + 1) = 2 by omega]; exact ⟨fun h => ⟨by omega, .inr ⟨by omega, h⟩⟩, fun h => h.2.elim (fun h => absurd h (by omega)) (fun h => h.2)⟩) | exact fun h => h.2.elim (fun h => absurd h (by omega)) (fun h => absurd h.1 (by omega)))), trivial⟩
      · refine .mv ?_; refine EL.addN (n := 2) rfl rfl rfl rfl rfl (by omega) ?_; refine .mv ?_; refine .lS ?_; refine .ls ?_; refine .mv ?_
        first | refine EL.splitD (d := 96) rfl (fun hp96 => ?_) (fun hp96 => ?_) | refine EL.splitN (d := 96) rfl (fun hp96 => ?_) (fun hp96 => ?_) | refine EL.splitB (d := 96) rfl (fun hp96 => ?_) (fun hp96 => ?_)
        · refine .mv ?_; refine .mv ?_; refine .a1 ?_; refine .mv ?_; refine EL.addN (n := 3) rfl rfl rfl rfl rfl (by omega) ?_; refine EL.sliceS rfl rfl rfl rfl rfl ⟨_, rfl⟩ ⟨_, rfl⟩ (by omega) (by omega) ?_; refine .eS ?_; refine .pt ?_; refine .pf ?_; refine .pt ?_; refine .as_ ?_
          exact .dx () ⟨rfl, rfl, rfl, rfl, getA rfl (congrArg Value.bool (by unfold eolM; rw [Bool.eq_iff_iff]; simp only [decide_eq_true_eq, Bool.and_eq_true, Bool.or_eq_true, true_iff, Bool.false_eq_true, false_iff]; first | omega | exact ⟨by omega, .inl (by omega)⟩ | (rw [show a + 3 - (a + 1) = 2 by omega]; exact ⟨fun h => ⟨by omega, .inr ⟨by omega, h⟩⟩, fun h => h.2.elim (fun h => absurd h (by omega)) (fun h => h.2)⟩) | exact fun h => h.2.elim (fun h => absurd h (by omega)) (fun h => absurd h.1 (by omega)))), trivial⟩
        · refine .ps ?_; refine .ps ?_; refine .ps ?_; refine .ps ?_; refine .ps ?_; refine .ps ?_; refine .ps ?_; refine .pf ?_; refine .pf ?_; refine .pt ?_; refine .as_ ?_
          exact .dx () ⟨rfl, rfl, rfl, rfl, getA rfl (congrArg Value.bool (by unfold eolM; rw [Bool.eq_iff_iff]; simp only [decide_eq_true_eq, Bool.and_eq_true, Bool.or_eq_true, true_iff, Bool.false_eq_true, false_iff]; first | omega | exact ⟨by omega, .inl (by omega)⟩ | (rw [show a + 3 - (a + 1) = 2 by omega]; exact ⟨fun h => ⟨by omega, .inr ⟨by omega, h⟩⟩, fun h => h.2.elim (fun h => absurd h (by omega)) (fun h => h.2)⟩) | exact fun h => h.2.elim (fun h => absurd h (by omega)) (fun h => absurd h.1 (by omega)))), trivial⟩
    · refine .ps ?_; refine .ps ?_; refine .ps ?_; refine .ps ?_; refine .ps ?_; refine .ps ?_; refine .ps ?_; refine .ps ?_; refine .ps ?_; refine .ps ?_; refine .ps ?_; refine .ps ?_; refine .ps ?_; refine .ps ?_; refine .ps ?_; refine .ps ?_; refine .ps ?_; refine .ps ?_; refine .ps ?_; refine .ps ?_; refine .ps ?_; refine .pf ?_; refine .as_ ?_
      exact .dx () ⟨rfl, rfl, rfl, rfl, getA rfl (congrArg Value.bool (by unfold eolM; rw [Bool.eq_iff_iff]; simp only [decide_eq_true_eq, Bool.and_eq_true, Bool.or_eq_true, true_iff, Bool.false_eq_true, false_iff]; first | omega | exact ⟨by omega, .inl (by omega)⟩ | (rw [show a + 3 - (a + 1) = 2 by omega]; exact ⟨fun h => ⟨by omega, .inr ⟨by omega, h⟩⟩, fun h => h.2.elim (fun h => absurd h (by omega)) (fun h => h.2)⟩) | exact fun h => h.2.elim (fun h => absurd h (by omega)) (fun h => absurd h.1 (by omega)))), trivial⟩
  refine ES.cond rfl (fun h6 => ?_) (fun h6 => ?_)
  · rw [Bool.and_eq_true, decide_eq_true_eq] at h6
    rw [if_pos ⟨by omega, h6.2⟩] at hrd
    subst hrd
    refine .go ?_; (repeat constructor); refine .mv ?_; refine EL.buildS (tokCells ⟨2, a, zeroS, 0, 0, 0⟩) rfl rfl rfl rfl rfl rfl rfl ?_; refine .mv ?_; refine .a1 ?_; refine .sa ?_; refine .as_ ?_; refine .go ?_; repeat constructor
    exact PX.ret rfl Tryz.results54 (.cons (.blkA rfl rfl rfl (by repeat constructor) rfl) (.cons (.tmp rfl) .nil)) (fun w hs => ⟨(), rfl, hs.ent (.i (by repeat constructor))⟩)
  · rw [if_neg (by rintro ⟨h7, h8⟩; rw [decide_eq_true (by omega), h8] at h6; cases h6)] at hrd
    subst hrd
    refine .go ?_; (repeat constructor); refine .mv ?_; refine .mv ?_; refine EL.callP rfl rfl rfl ent83 rfl (one_c a b) ?_; refine .mv ?_; refine .a1 ?_; refine .sa ?_; refine .as_ ?_; refine .go ?_; repeat constructor
    exact PX.ret rfl Tryz.results54 (.cons (.blkA rfl rfl rfl (by repeat constructor) rfl) (.cons (.tmp rfl) .nil)) (fun w hs => ⟨(), rfl, hs.ent (.i (by repeat constructor))⟩)
end Go.Proofs.YthcbjbkheodejaaGreat
namespace Go.Proofs.YthcbjbkheodejaaGreat.Sl
open Go Go.RowKit
section draws2
variable {C : Cx} {all : Array Oper} {Q : Qt}
def bindsT (all : Array Oper) : Nat → Nat → Nat → Bool
  | 0, _, _ => false
  | f + 1, j, k => match all[j]? with
    | some o => o.after.any fun e => Region.binds .any e && (Nat.beq e.on k || bindsT all f e.on k)
    | none => false
def lateBinds (all : Array Oper) (m : Nat) : Bool := (List.range all.size).all fun j => Nat.blt j m || (List.range m).all fun k => bindsT all 7 j k
theorem bindsT_done {L : Array Bool} (hcl : Closed all L) : ∀ (f j k : Nat) (oj : Oper), bindsT all f j k = true → all[j]? = some oj → (∀ e ∈ oj.after, Region.binds .any e = true → L.getD e.on false = true) → L.getD k false = true
  | 0, _, _, _, h, _, _ => by cases h
  | f + 1, j, k, oj, h, hj, hall => by
    simp only [bindsT, hj] at h
    obtain ⟨e, he, h2⟩ := Array.any_eq_true'.1 h
    simp only [Bool.and_eq_true, Bool.or_eq_true] at h2
    have hd := hall e he h2.1
    rcases h2.2 with h3 | h3
    · rw [Nat.eq_of_beq_eq_true h3] at hd; exact hd
    · cases f with
      | zero => cases h3
      | succ f =>
        cases ho : all[e.on]? with
        | none => simp only [bindsT, ho] at h3; cases h3
        | some o => exact bindsT_done hcl (f + 1) e.on k o h3 ho (fun e' he' hb' => hcl e.on o ho hd e' he' hb')
theorem late_not {m : Nat} {L : Array Bool} (hb : lateBinds all m = true) (hcl : Closed all L) {i j : Nat} {oj : Oper} (hi : L.getD i false = true → False) (him : i < m) (hj : all[j]? = some oj) (hjm : m ≤ j)
    (h : (∀ e ∈ oj.after, Region.binds .any e = true → L.getD e.on false = true)) : False := by
  have hlt : j < all.size := (Array.getElem?_eq_some_iff.1 hj).1
  have h1 := List.all_eq_true.1 hb j (List.mem_range.2 hlt)
  simp only [Bool.or_eq_true] at h1
  rcases h1 with h1 | h1
  · have : j < m := by simpa using h1
    omega
  · exact hi (bindsT_done hcl 7 j i oj (List.all_eq_true.1 h1 i (List.mem_range.2 him)) hj h)
def someLate (m : Nat) (L : Array Bool) : Bool := (List.range L.size).any fun k => Nat.ble m k && L.getD k false
theorem someLate_true {m : Nat} {L : Array Bool} (h : someLate m L = true) : ∃ k, m ≤ k ∧ L.getD k false = true := by
  obtain ⟨k, _, h2⟩ := List.any_eq_true.1 h
  simp only [Bool.and_eq_true] at h2
  exact ⟨k, Nat.le_of_ble_eq_true h2.1, h2.2⟩
theorem someLate_of {m : Nat} {L : Array Bool} {k : Nat} (hk : m ≤ k) (h : L.getD k false = true) : someLate m L = true := by
  have hlt : k < L.size := by
    rcases Nat.lt_or_ge k L.size with h' | h'
    · exact h'
    · simp [Array.getElem?_eq_none h'] at h
  exact List.any_eq_true.2 ⟨k, List.mem_range.2 hlt, by rw [h, Nat.ble_eq_true_of_le hk]; rfl⟩
def KS (C : Cx) (Hs : List HA) (m : Nat) (L : Array Bool) (w : World) : Prop := Sat C.w0 C.B [] w ∧ (someLate m L = false → Sat C.w0 C.B Hs w)
def wpAnyG (C : Cx) (all : Array Oper) (Q : Qt) (Hs : List HA) (m : Nat) : Nat → Array Bool → Act → World → Prop
  | 0, L, a, w => Region.ready .any all L = [] ∧ Q .normal a w
  | f + 1, L, a, w => (Region.ready .any all L = [] → Q .normal a w) ∧
    ∀ i ∈ Region.ready .any all L, wpOpIn (F0 C.r) 0 C.P all Q i (fun a' w' => KS C Hs m (L.setIfInBounds i true) w' ∧ wpAnyG C all Q Hs m f (L.setIfInBounds i true) a' w') a w
theorem wpAnyG.any {Hs : List HA} {m : Nat} : ∀ (f : Nat) (L : Array Bool) (a : Act) (w : World), wpAnyG C all Q Hs m f L a w → wpAnyIn (F0 C.r) 0 C.P .any all Q f L a w
  | 0, _, _, _, h => h
  | f + 1, _, _, _, h => ⟨h.1, fun i hi => wpOpIn_mono (fun a' w' h' => wpAnyG.any f _ a' w' h'.2) (h.2 i hi)⟩
theorem ready_undone {L : Array Bool} {i : Nat} (h : i ∈ Region.ready .any all L) : L.getD i false = true → False := fun h1 => by
  have h0 := (mem_ready.1 h).1
  rcases Nat.lt_or_ge i L.size with h' | h'
  · simp [h'] at h0 h1; rw [h0] at h1; cases h1
  · simp [Array.getElem?_eq_none h'] at h1
def need (Hs : List HA) (m i : Nat) : List HA := bif Nat.blt i m then Hs else []
theorem KS.need {Hs : List HA} {m i : Nat} {L : Array Bool} {w : World} (hb : lateBinds all m = true) (hcl : Closed all L) (hsz : L.size = all.size) (hi : i ∈ Region.ready .any all L) (h : KS C Hs m L w) : Sat C.w0 C.B (need Hs m i) w := by
  unfold Sl.need
  cases hm : Nat.blt i m with
  | false => exact h.1
  | true =>
    have him : i < m := by simpa using hm
    refine h.2 ?_
    cases hl : someLate m L with
    | false => rfl
    | true =>
      obtain ⟨k, hk, hd⟩ := someLate_true hl
      have hks : k < all.size := by
        rw [← hsz]
        rcases Nat.lt_or_ge k L.size with h' | h'
        · exact h'
        · simp [Array.getElem?_eq_none h'] at hd
      exact (late_not hb hcl (ready_undone hi) him (Array.getElem?_eq_getElem hks) hk (fun e he hb' => hcl k _ (Array.getElem?_eq_getElem hks) hd e he hb')).elim
theorem KS.back {Hs : List HA} {m i j : Nat} {L : Array Bool} {w : World} (hb : lateBinds all m = true) (hcl : Closed all L) (hi : i ∈ Region.ready .any all L) (hj : j ∈ Region.ready .any all L) (hji : j ≠ i) (h : KS C Hs m ((L.setIfInBounds i true).setIfInBounds j true) w) : KS C Hs m (L.setIfInBounds j true) w := by
  refine ⟨h.1, fun hl => h.2 ?_⟩
  cases hl2 : someLate m ((L.setIfInBounds i true).setIfInBounds j true) with
  | false => rfl
  | true =>
    exfalso
    obtain ⟨k, hk, hd⟩ := someLate_true hl2
    obtain ⟨hiun, oi, hoi, halli⟩ := mem_ready.1 hi
    obtain ⟨hjun, oj, hoj, hallj⟩ := mem_ready.1 hj
    by_cases hkj : j = k
    · subst hkj
      have hs : j < L.size := by
        rcases Nat.lt_or_ge j L.size with h' | h'
        · exact h'
        · simp [Array.getElem?_eq_none h'] at hjun
      have : someLate m (L.setIfInBounds j true) = true := someLate_of hk (by simp [hs])
      rw [this] at hl; cases hl
    · rw [getD_set_ne false hkj] at hd
      by_cases hki : i = k
      · subst hki
        rcases Nat.lt_or_ge j m with hjm | hjm
        · exact late_not hb hcl (ready_undone hj) hjm hoi hk halli
        · have hs : j < L.size := by
            rcases Nat.lt_or_ge j L.size with h' | h'
            · exact h'
            · simp [Array.getElem?_eq_none h'] at hjun
          have : someLate m (L.setIfInBounds j true) = true := someLate_of hjm (by simp [hs])
          rw [this] at hl; cases hl
      · rw [getD_set_ne false hki] at hd
        have : someLate m (L.setIfInBounds j true) = true := someLate_of hk (by rw [getD_set_ne false hkj]; exact hd)
        rw [this] at hl; cases hl
theorem KS.quiet {Hs : List HA} {m i : Nat} {L : Array Bool} {w : World} (h : KS C Hs m L w) : KS C Hs m (L.setIfInBounds i true) w := by
  refine ⟨h.1, fun hl => h.2 ?_⟩
  cases hl2 : someLate m L with
  | false => rfl
  | true =>
    obtain ⟨k, hk, hd⟩ := someLate_true hl2
    rw [someLate_of hk (getD_set_done hd)] at hl; cases hl
theorem wpAnyG.first {i : Nat} {oi : Oper} {v : Value} (hi : all[i]? = some oi) (hnd : noDefer all = true) (hQ : ∀ c a w, ¬ Q (.panic c) a w) {Hs : List HA} {m : Nat} (hb : lateBinds all m = true) :
    ∀ (f : Nat) (L : Array Bool) (a : Act) (w : World), (∀ j oj, all[j]? = some oj → j ≠ i → L.getD j true = false → (∀ e ∈ oj.after, Region.binds .any e = true → e.on ≠ i) → oi.apart all oj = true) →
      Closed all L → L.size = all.size → i ∈ Region.ready .any all L → YieldsS C all (Sat C.w0 C.B (need Hs m i)) oi v a → KS C Hs m L w → wpAnyG C all Q Hs m f (L.setIfInBounds i true) (a.put oi.dst v) w → wpAnyG C all Q Hs m (f + 1) L a w := by
  have hdi := noDefer_spec hnd hi
  intro f
  induction f with
  | zero =>
    intro L a w _ hcl hsz hr hy hS H
    refine ⟨fun h => (by rw [h] at hr; cases hr), fun j hj => ?_⟩
    by_cases hji : j = i
    · subst hji; exact hy.step hi hdi.1 (hS.need hb hcl hsz hr) ⟨hS.quiet, H⟩
    · have := ready_mono hj hji
      rw [H.1] at this
      cases this
  | succ f ih =>
    intro L a w hfree hcl hsz hr hy hS H
    refine ⟨fun h => (by rw [h] at hr; cases hr), fun j hj => ?_⟩
    by_cases hji : j = i
    · subst hji; exact hy.step hi hdi.1 (hS.need hb hcl hsz hr) ⟨hS.quiet, H⟩
    · have h1 := H.2 j (ready_mono hj hji)
      obtain ⟨hjun, oj, hoj, hall⟩ := mem_ready.1 hj
      have hnot : ∀ e ∈ oj.after, Region.binds .any e = true → e.on ≠ i := fun e he hb heq => by
        have h1 := hall e he hb
        rw [heq] at h1
        exact ready_undone hr h1
      have hdj := noDefer_spec hnd hoj
      have h2 := YieldsS.other hoj (hfree j oj hoj hji hjun hnot) hdi.2 hdj.2 hdj.1 hQ hy h1
      refine wpOpIn_mono (fun a' w' h3 => ⟨h3.2.1.back hb hcl hr hj hji, ih (L.setIfInBounds j true) a' w' (fun k ok hk hki hun hno => ?_) (hcl.set hj) (by rw [Array.size_setIfInBounds]; exact hsz) (ready_mono hr (Ne.symm hji)) h3.1 (h3.2.1.back hb hcl hr hj hji) ?_⟩) h2
      · refine hfree k ok hk hki ?_ hno
        by_cases hjk : j = k
        · subst hjk; exact hjun
        · rw [getD_set_ne true hjk] at hun; exact hun
      · rw [Array.setIfInBounds_comm _ _ hji]
        exact h3.2.2
def EG (C : Cx) (all : Array Oper) (Hs : List HA) (m f : Nat) (L : Array Bool) (E : Env) (H : List HA) (Q : Qt) : Prop := lateBinds all m = true → L.size = all.size → ∀ a w, At C E H a w → KS C Hs m L w → wpAnyG C all Q Hs m f L a w
variable {Hs : List HA} {m f : Nat} {L : Array Bool} {E E' : Env} {H H' : List HA}
theorem EG.take (i : Nat) {o : Oper} {d : Nat} {v : Value} (hi : all[i]? = some o) (hnd : noDefer all = true) (hQ : ∀ c a w, ¬ Q (.panic c) a w) (ht : takeOk all L i = true) (hg : guardOk all E o.guard = some true) (hd : o.dst = some d) (hdn : Nat.blt d C.n = true)
    (hv : RunV C E (need Hs m i) o v) (k : EG C all Hs m f (L.setIfInBounds i true) ((d, v) :: E) H Q) : EG C all Hs m (f + 1) L E H Q := by
  intro hb hsz a w ha hs
  simp only [takeOk, Bool.and_eq_true] at ht
  have hr : i ∈ Region.ready .any all L := by simpa using ht.1.2
  refine wpAnyG.first hi hnd hQ hb f L a w (fun j oj => Region.free_spec hi ht.1.1 j oj) (closedB_spec ht.2) hsz hr (.inl ⟨guardOk_wanted hg ha.1, fun w' hS => hv a w' ⟨ha.1, hS⟩⟩) hs ?_
  rw [hd]
  exact k hb (by rw [Array.size_setIfInBounds]; exact hsz) _ _ ⟨ha.1.put (by simpa using hdn) v, ha.2⟩ hs.quiet
theorem EG.tk {o : Oper} {d : Nat} {v : Value} (i : Nat) (hi : all[i]? = some o) (hv : RunV C E (need Hs m i) o v) (k : EG C all Hs m f (L.setIfInBounds i true) ((d, v) :: E) H Q) (hnd : noDefer all = true := by decide +kernel) (hQ : ∀ c a w, ¬ Q (.panic c) a w := by exact CutX.no_panic) (ht : takeOk all L i = true := by decide +kernel) (hg : guardOk all E o.guard = some true := by exact rfl) (hd : o.dst = some d := by exact rfl) (hdn : Nat.blt d C.n = true := by exact rfl) : EG C all Hs m (f + 1) L E H Q := EG.take i hi hnd hQ ht hg hd hdn hv k
theorem EG.pass (i : Nat) {o : Oper} {d : Nat} (hi : all[i]? = some o) (hnd : noDefer all = true) (hQ : ∀ c a w, ¬ Q (.panic c) a w) (ht : takeOk all L i = true) (hg : guardOk all E o.guard = some false) (hd : o.dst = some d) (hdn : Nat.blt d C.n = true)
    (k : EG C all Hs m f (L.setIfInBounds i true) ((d, undef) :: E) H Q) : EG C all Hs m (f + 1) L E H Q := by
  intro hb hsz a w ha hs
  simp only [takeOk, Bool.and_eq_true] at ht
  have hr : i ∈ Region.ready .any all L := by simpa using ht.1.2
  refine wpAnyG.first hi hnd hQ hb f L a w (fun j oj => Region.free_spec hi ht.1.1 j oj) (closedB_spec ht.2) hsz hr (.inr ⟨guardOk_wanted hg ha.1, rfl⟩) hs ?_
  rw [hd]
  exact k hb (by rw [Array.size_setIfInBounds]; exact hsz) _ _ ⟨ha.1.put (by simpa using hdn) undef, ha.2⟩ hs.quiet
theorem EG.pa {o : Oper} {d : Nat} (i : Nat) (hi : all[i]? = some o) (k : EG C all Hs m f (L.setIfInBounds i true) ((d, undef) :: E) H Q) (hnd : noDefer all = true := by decide +kernel) (hQ : ∀ c a w, ¬ Q (.panic c) a w := by exact CutX.no_panic) (ht : takeOk all L i = true := by decide +kernel) (hg : guardOk all E o.guard = some false := by exact rfl) (hd : o.dst = some d := by exact rfl) (hdn : Nat.blt d C.n = true := by exact rfl) : EG C all Hs m (f + 1) L E H Q := EG.pass i hi hnd hQ ht hg hd hdn k
def GK (C : Cx) (all : Array Oper) (Hs : List HA) (m f : Nat) (L : Array Bool) (Q : Qt) : Qt := fun e a w => match e with
  | .normal => KS C Hs m L w ∧ wpAnyG C all Q Hs m f L a w
  | e => Q e a w
theorem loud_opG {i : Nat} {o : Oper} (hi : all[i]? = some o) (k : EL C all [o] (GK C all Hs m f (L.setIfInBounds i true) Q) E H) {a : Act} {w : World} (ha : At C E H a w) :
    wpOpIn (F0 C.r) 0 C.P all Q i (fun a' w' => KS C Hs m (L.setIfInBounds i true) w' ∧ wpAnyG C all Q Hs m f (L.setIfInBounds i true) a' w') a w := by
  have hk := k a w ha
  have hD : ∀ e a w, GK C all Hs m f (L.setIfInBounds i true) Q e a w → match e with | .normal => KS C Hs m (L.setIfInBounds i true) w ∧ wpAnyG C all Q Hs m f (L.setIfInBounds i true) a w | e => Q e a w := fun e a w h => by
    cases e with
    | normal => exact h
    | _ => exact h
  unfold wpOpIn
  simp only [hi]
  simp only [wpListIn] at hk
  split
  · rename_i hw
    simp only [hw, if_true] at hk
    refine ⟨fun _ _ => trivial, ?_⟩
    have h2 := hk.2
    generalize (o.semAt (F0 C.r).round a.eval).run C.P w = r at *
    cases r with
    | ok x w' =>
      cases x <;> simp only [Oper.uponIn] at h2 ⊢
      case value u => exact hD _ _ _ h2
      case skip => exact hD _ _ _ h2
      case defer d => exact hD _ _ _ h2
      case enter f args =>
        refine ⟨h2.1, CallsIn.mono h2.2 fun e w'' he => ?_⟩
        cases e with
        | returned u => exact hD _ _ _ he
        | panicked c => exact hD _ _ _ he
        | outgrown =>
          obtain ⟨a', w3, h3⟩ := he
          exact ⟨a', w3, hD _ _ _ h3⟩
      case row row args => exact ⟨h2.1, RowsIn.mono h2.2 fun u w'' he => hD _ _ _ he⟩
      case round l f tmps assign body =>
        refine ⟨h2.1, RoundIn.mono h2.2 fun e w'' he => ?_⟩
        cases e with
        | returned u => exact hD _ _ _ he
        | panicked c => exact hD _ _ _ he
        | outgrown =>
          obtain ⟨a', w3, h3⟩ := he
          exact ⟨a', w3, hD _ _ _ h3⟩
    | halt x w' =>
      cases x <;> simp only [Oper.uponIn] at h2 ⊢
      case panic u => exact hD _ _ _ h2
  · rename_i hw
    simp only [hw] at hk
    exact ⟨fun _ _ => trivial, hD _ _ _ hk.2⟩
def EGone (C : Cx) (all : Array Oper) (Hs : List HA) (m f : Nat) (L : Array Bool) (E : Env) (H : List HA) (Q : Qt) (j : Nat) : Prop := ∃ o, all[j]? = some o ∧ EL C all [o] (GK C all Hs m f (L.setIfInBounds j true) Q) E H
def EGall (C : Cx) (all : Array Oper) (Hs : List HA) (m f : Nat) (L : Array Bool) (E : Env) (H : List HA) (Q : Qt) : List Nat → Prop
  | [] => True
  | j :: r => EGone C all Hs m f L E H Q j ∧ EGall C all Hs m f L E H Q r
theorem EGall.get : ∀ {js : List Nat}, EGall C all Hs m f L E H Q js → ∀ j ∈ js, EGone C all Hs m f L E H Q j
  | j :: r, h, k, hk => by
    rcases List.mem_cons.1 hk with rfl | hk
    · exact h.1
    · exact EGall.get h.2 k hk
theorem EG.fork (i : Nat) (js : List Nat) (hr : (Region.ready .any all L == i :: js) = true) (h : EGall C all Hs m f L E H Q (i :: js)) : EG C all Hs m (f + 1) L E H Q := by
  intro hb hsz a w ha hs
  have hR : Region.ready .any all L = i :: js := by simpa using hr
  refine ⟨fun h => (by rw [hR] at h; cases h), fun j hj => ?_⟩
  rw [hR] at hj
  obtain ⟨o, ho, k⟩ := h.get j hj
  exact loud_opG ho k ha
theorem EG.loud (i : Nat) {o : Oper} (hi : all[i]? = some o) (hr : readyIs all L i = true) (k : EL C all [o] (GK C all Hs m f (L.setIfInBounds i true) Q) E H) : EG C all Hs m (f + 1) L E H Q := by
  intro hb hsz a w ha hs
  have hR : Region.ready .any all L = [i] := by
    unfold readyIs at hr
    split at hr
    · rename_i j hj; rw [hj, Nat.eq_of_beq_eq_true hr]
    · cases hr
  refine ⟨fun h => (by rw [hR] at h; cases h), fun j hj => ?_⟩
  rw [hR] at hj
  obtain rfl : j = i := by simpa using hj
  exact loud_opG hi k ha
theorem EG.next (hb : lateBinds all m = true) (hsz : Nat.beq L.size all.size = true) (hs : Ent H Hs) (k : EG C all Hs m f L E H Q) : EL C all [] (GK C all Hs m f L Q) E H := fun a w ha =>
  have hk : KS C Hs m L w := ⟨ha.2.ent (.nil _), fun _ => ha.2.ent hs⟩
  ⟨hk, k hb (Nat.eq_of_beq_eq_true hsz) a w ha hk⟩
theorem EG.nextL (hb : lateBinds all m = true) (hsz : Nat.beq L.size all.size = true) (hl : someLate m L = true) (k : EG C all Hs m f L E H Q) : EL C all [] (GK C all Hs m f L Q) E H := fun a w ha =>
  have hk : KS C Hs m L w := ⟨ha.2.ent (.nil _), fun h => by rw [hl] at h; cases h⟩
  ⟨hk, k hb (Nat.eq_of_beq_eq_true hsz) a w ha hk⟩
theorem EG.done (hr : (match Region.ready .any all L with | [] => true | _ => false) = true) (k : PX C Q .normal E H) : EG C all Hs m f L E H Q := by
  intro hb hsz a w ha hs
  have hR : Region.ready .any all L = [] := by
    split at hr
    · assumption
    · cases hr
  cases f with
  | zero => exact ⟨hR, k a w ha⟩
  | succ f => exact ⟨fun _ => k a w ha, fun i hi => absurd hi (by rw [hR]; simp)⟩
theorem EG.dn (k : PX C Q .normal E H) (hr : (match Region.ready .any all L with | [] => true | _ => false) = true := by decide +kernel) : EG C all Hs m f L E H Q := EG.done hr k
theorem ES.drawG {X : Type} {id : Nat} {ops : Array Oper} {cs : List Code} (Ex : X → Env) (Hx : X → List HA) (m : Nat) (Hs : List HA) (hm : C.P.follows .mixedOrders = true) (hb : lateBinds ops m = true) (hs : Ent H Hs)
    (h : EG C ops Hs m ops.size (Array.replicate ops.size false) E H (CutX C Ex Hx)) (k : ∀ x, ES C cs Q (Ex x) (Hx x)) : ES C (.region id ops true :: cs) Q E H := by
  intro a w ha
  have h1 := wpAnyG.any _ _ _ _ (h hb (by simp) a { w with drawn := w.drawn + 1 } ⟨ha.1, ha.2.drewN _⟩ ⟨(ha.2.ent (.nil _)).drewN _, fun _ => (ha.2.ent hs).drewN _⟩)
  have h2 := wpIn_region_any (id := id) hm h1
  refine wpIn_mono h2 ?_
  intro e a' w' hq
  cases e with
  | normal =>
    obtain ⟨_, x, hat⟩ := hq
    exact k x a' w' hat
  | _ => cases (hq.1 : _ = Exit.normal)
end draws2
end Go.Proofs.YthcbjbkheodejaaGreat.Sl
