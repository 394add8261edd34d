/- Layer 2 (bset): the walks of the classes. -/
import Derived.Test.YtgoopgnnkhpmlaaDoorDb
namespace Go.Proofs.YtgoopgnnkhpmlaaDoor
open Go Go.RowKit Sl
set_option maxRecDepth 100000
set_option maxHeartbeats 8000000
set_option linter.unusedVariables false
set_option linter.unusedSimpArgs false
attribute [local irreducible] ES EL PX wps
attribute [local irreducible] fillS

theorem is_c (l : List UInt8) (b : UInt8) (w : World) : Pure Tryd.prog 27 #[Sv l, Uv b] (fun _ : Unit => .tuple #[.bool (isB l b.toNat), .bool (okM l)]) (fun _ => []) w := by
  have hb := b.toNat_lt
  refine calls_of_ES TB Tryd.func27 rfl _ Tryd.ntmps27 rfl (Sat.start w) ?_
  refine .go ?_; repeat constructor
  refine EL.assign rfl rfl rfl ?_
  refine EL.assign rfl rfl rfl ?_
  refine .go ?_; repeat constructor
  refine EL.cut [(0, Sv l), (1, Uv b), (6, .bool (bUp b.toNat)), (7, .bool (bLo b.toNat)), (8, .bool (bDi b.toNat))] [] ?_ ?_
  · refine .go ?_; repeat constructor
    refine EL.move rfl rfl rfl ?_
    refine EL.geq rfl rfl rfl rfl ?_
    refine EL.move rfl rfl rfl ?_
    first | refine EL.splitD (d := 12) rfl (fun hp12 => ?_) (fun hp12 => ?_) | refine EL.splitN (d := 12) rfl (fun hp12 => ?_) (fun hp12 => ?_) | refine EL.splitB (d := 12) rfl (fun hp12 => ?_) (fun hp12 => ?_)
    · refine EL.move rfl rfl rfl ?_
      refine EL.leq rfl rfl rfl rfl ?_
      refine EL.pickT rfl rfl rfl rfl ?_
      refine EL.move rfl rfl rfl ?_
      refine EL.geq rfl rfl rfl rfl ?_
      refine EL.move rfl rfl rfl ?_
      first | refine EL.splitD (d := 18) rfl (fun hp18 => ?_) (fun hp18 => ?_) | refine EL.splitN (d := 18) rfl (fun hp18 => ?_) (fun hp18 => ?_) | refine EL.splitB (d := 18) rfl (fun hp18 => ?_) (fun hp18 => ?_)
      · refine EL.move rfl rfl rfl ?_
        refine EL.leq rfl rfl rfl rfl ?_
        refine EL.pickT rfl rfl rfl rfl ?_
        refine EL.move rfl rfl rfl ?_
        refine EL.geq rfl rfl rfl rfl ?_
        refine EL.move rfl rfl rfl ?_
        first | refine EL.splitD (d := 24) rfl (fun hp24 => ?_) (fun hp24 => ?_) | refine EL.splitN (d := 24) rfl (fun hp24 => ?_) (fun hp24 => ?_) | refine EL.splitB (d := 24) rfl (fun hp24 => ?_) (fun hp24 => ?_)
        · refine EL.move rfl rfl rfl ?_
          refine EL.leq rfl rfl rfl rfl ?_
          refine EL.pickT rfl rfl rfl rfl ?_
          refine EL.assign rfl rfl rfl ?_
          refine EL.assign rfl rfl rfl ?_
          refine EL.assign rfl rfl rfl ?_
          exact EL.endK ⟨rfl, rfl, getB rfl (by first | exact decide_eq_decide.2 (by omega) | exact Eq.trans decide_not.symm (decide_eq_decide.2 (by omega)) | exact (decide_eq_false (by omega)).symm | exact (decide_eq_true (by omega)).symm), getB rfl (by first | exact decide_eq_decide.2 (by omega) | exact Eq.trans decide_not.symm (decide_eq_decide.2 (by omega)) | exact (decide_eq_false (by omega)).symm | exact (decide_eq_true (by omega)).symm), getB rfl (by first | exact decide_eq_decide.2 (by omega) | exact Eq.trans decide_not.symm (decide_eq_decide.2 (by omega)) | exact (decide_eq_false (by omega)).symm | exact (decide_eq_true (by omega)).symm), trivial⟩ (.i (by repeat constructor))
        · refine EL.pass rfl rfl rfl ?_
          refine EL.pass rfl rfl rfl ?_
          refine EL.pickF rfl rfl rfl rfl ?_
          refine EL.assign rfl rfl rfl ?_
          refine EL.assign rfl rfl rfl ?_
          refine EL.assign rfl rfl rfl ?_
          exact EL.endK ⟨rfl, rfl, getB rfl (by first | exact decide_eq_decide.2 (by omega) | exact Eq.trans decide_not.symm (decide_eq_decide.2 (by omega)) | exact (decide_eq_false (by omega)).symm | exact (decide_eq_true (by omega)).symm), getB rfl (by first | exact decide_eq_decide.2 (by omega) | exact Eq.trans decide_not.symm (decide_eq_decide.2 (by omega)) | exact (decide_eq_false (by omega)).symm | exact (decide_eq_true (by omega)).symm), getB rfl (by first | exact decide_eq_decide.2 (by omega) | exact Eq.trans decide_not.symm (decide_eq_decide.2 (by omega)) | exact (decide_eq_false (by omega)).symm | exact (decide_eq_true (by omega)).symm), trivial⟩ (.i (by repeat constructor))
      · refine EL.pass rfl rfl rfl ?_
        refine EL.pass rfl rfl rfl ?_
        refine EL.pickF rfl rfl rfl rfl ?_
        refine EL.move rfl rfl rfl ?_
        refine EL.geq rfl rfl rfl rfl ?_
        refine EL.move rfl rfl rfl ?_
        first | refine EL.splitD (d := 24) rfl (fun hp24 => ?_) (fun hp24 => ?_) | refine EL.splitN (d := 24) rfl (fun hp24 => ?_) (fun hp24 => ?_) | refine EL.splitB (d := 24) rfl (fun hp24 => ?_) (fun hp24 => ?_)
        · refine EL.move rfl rfl rfl ?_
          refine EL.leq rfl rfl rfl rfl ?_
          refine EL.pickT rfl rfl rfl rfl ?_
          refine EL.assign rfl rfl rfl ?_
          refine EL.assign rfl rfl rfl ?_
          refine EL.assign rfl rfl rfl ?_
          exact EL.endK ⟨rfl, rfl, getB rfl (by first | exact decide_eq_decide.2 (by omega) | exact Eq.trans decide_not.symm (decide_eq_decide.2 (by omega)) | exact (decide_eq_false (by omega)).symm | exact (decide_eq_true (by omega)).symm), getB rfl (by first | exact decide_eq_decide.2 (by omega) | exact Eq.trans decide_not.symm (decide_eq_decide.2 (by omega)) | exact (decide_eq_false (by omega)).symm | exact (decide_eq_true (by omega)).symm), getB rfl (by first | exact decide_eq_decide.2 (by omega) | exact Eq.trans decide_not.symm (decide_eq_decide.2 (by omega)) | exact (decide_eq_false (by omega)).symm | exact (decide_eq_true (by omega)).symm), trivial⟩ (.i (by repeat constructor))
        · refine EL.pass rfl rfl rfl ?_
          refine EL.pass rfl rfl rfl ?_
          refine EL.pickF rfl rfl rfl rfl ?_
          refine EL.assign rfl rfl rfl ?_
          refine EL.assign rfl rfl rfl ?_
          refine EL.assign rfl rfl rfl ?_
          exact EL.endK ⟨rfl, rfl, getB rfl (by first | exact decide_eq_decide.2 (by omega) | exact Eq.trans decide_not.symm (decide_eq_decide.2 (by omega)) | exact (decide_eq_false (by omega)).symm | exact (decide_eq_true (by omega)).symm), getB rfl (by first | exact decide_eq_decide.2 (by omega) | exact Eq.trans decide_not.symm (decide_eq_decide.2 (by omega)) | exact (decide_eq_false (by omega)).symm | exact (decide_eq_true (by omega)).symm), getB rfl (by first | exact decide_eq_decide.2 (by omega) | exact Eq.trans decide_not.symm (decide_eq_decide.2 (by omega)) | exact (decide_eq_false (by omega)).symm | exact (decide_eq_true (by omega)).symm), trivial⟩ (.i (by repeat constructor))
    · refine EL.pass rfl rfl rfl ?_
      refine EL.pass rfl rfl rfl ?_
      refine EL.pickF rfl rfl rfl rfl ?_
      refine EL.move rfl rfl rfl ?_
      refine EL.geq rfl rfl rfl rfl ?_
      refine EL.move rfl rfl rfl ?_
      first | refine EL.splitD (d := 18) rfl (fun hp18 => ?_) (fun hp18 => ?_) | refine EL.splitN (d := 18) rfl (fun hp18 => ?_) (fun hp18 => ?_) | refine EL.splitB (d := 18) rfl (fun hp18 => ?_) (fun hp18 => ?_)
      · refine EL.move rfl rfl rfl ?_
        refine EL.leq rfl rfl rfl rfl ?_
        refine EL.pickT rfl rfl rfl rfl ?_
        refine EL.move rfl rfl rfl ?_
        refine EL.geq rfl rfl rfl rfl ?_
        refine EL.move rfl rfl rfl ?_
        first | refine EL.splitD (d := 24) rfl (fun hp24 => ?_) (fun hp24 => ?_) | refine EL.splitN (d := 24) rfl (fun hp24 => ?_) (fun hp24 => ?_) | refine EL.splitB (d := 24) rfl (fun hp24 => ?_) (fun hp24 => ?_)
        · refine EL.move rfl rfl rfl ?_
          refine EL.leq rfl rfl rfl rfl ?_
          refine EL.pickT rfl rfl rfl rfl ?_
          refine EL.assign rfl rfl rfl ?_
          refine EL.assign rfl rfl rfl ?_
          refine EL.assign rfl rfl rfl ?_
          exact EL.endK ⟨rfl, rfl, getB rfl (by first | exact decide_eq_decide.2 (by omega) | exact Eq.trans decide_not.symm (decide_eq_decide.2 (by omega)) | exact (decide_eq_false (by omega)).symm | exact (decide_eq_true (by omega)).symm), getB rfl (by first | exact decide_eq_decide.2 (by omega) | exact Eq.trans decide_not.symm (decide_eq_decide.2 (by omega)) | exact (decide_eq_false (by omega)).symm | exact (decide_eq_true (by omega)).symm), getB rfl (by first | exact decide_eq_decide.2 (by omega) | exact Eq.trans decide_not.symm (decide_eq_decide.2 (by omega)) | exact (decide_eq_false (by omega)).symm | exact (decide_eq_true (by omega)).symm), trivial⟩ (.i (by repeat constructor))
        · refine EL.pass rfl rfl rfl ?_
          refine EL.pass rfl rfl rfl ?_
          refine EL.pickF rfl rfl rfl rfl ?_
          refine EL.assign rfl rfl rfl ?_
          refine EL.assign rfl rfl rfl ?_
          refine EL.assign rfl rfl rfl ?_
          exact EL.endK ⟨rfl, rfl, getB rfl (by first | exact decide_eq_decide.2 (by omega) | exact Eq.trans decide_not.symm (decide_eq_decide.2 (by omega)) | exact (decide_eq_false (by omega)).symm | exact (decide_eq_true (by omega)).symm), getB rfl (by first | exact decide_eq_decide.2 (by omega) | exact Eq.trans decide_not.symm (decide_eq_decide.2 (by omega)) | exact (decide_eq_false (by omega)).symm | exact (decide_eq_true (by omega)).symm), getB rfl (by first | exact decide_eq_decide.2 (by omega) | exact Eq.trans decide_not.symm (decide_eq_decide.2 (by omega)) | exact (decide_eq_false (by omega)).symm | exact (decide_eq_true (by omega)).symm), trivial⟩ (.i (by repeat constructor))
      · refine EL.pass rfl rfl rfl ?_
        refine EL.pass rfl rfl rfl ?_
        refine EL.pickF rfl rfl rfl rfl ?_
        refine EL.move rfl rfl rfl ?_
        refine EL.geq rfl rfl rfl rfl ?_
        refine EL.move rfl rfl rfl ?_
        first | refine EL.splitD (d := 24) rfl (fun hp24 => ?_) (fun hp24 => ?_) | refine EL.splitN (d := 24) rfl (fun hp24 => ?_) (fun hp24 => ?_) | refine EL.splitB (d := 24) rfl (fun hp24 => ?_) (fun hp24 => ?_)
        · refine EL.move rfl rfl rfl ?_
          refine EL.leq rfl rfl rfl rfl ?_
          refine EL.pickT rfl rfl rfl rfl ?_
          refine EL.assign rfl rfl rfl ?_
          refine EL.assign rfl rfl rfl ?_
          refine EL.assign rfl rfl rfl ?_
          exact EL.endK ⟨rfl, rfl, getB rfl (by first | exact decide_eq_decide.2 (by omega) | exact Eq.trans decide_not.symm (decide_eq_decide.2 (by omega)) | exact (decide_eq_false (by omega)).symm | exact (decide_eq_true (by omega)).symm), getB rfl (by first | exact decide_eq_decide.2 (by omega) | exact Eq.trans decide_not.symm (decide_eq_decide.2 (by omega)) | exact (decide_eq_false (by omega)).symm | exact (decide_eq_true (by omega)).symm), getB rfl (by first | exact decide_eq_decide.2 (by omega) | exact Eq.trans decide_not.symm (decide_eq_decide.2 (by omega)) | exact (decide_eq_false (by omega)).symm | exact (decide_eq_true (by omega)).symm), trivial⟩ (.i (by repeat constructor))
        · refine EL.pass rfl rfl rfl ?_
          refine EL.pass rfl rfl rfl ?_
          refine EL.pickF rfl rfl rfl rfl ?_
          refine EL.assign rfl rfl rfl ?_
          refine EL.assign rfl rfl rfl ?_
          refine EL.assign rfl rfl rfl ?_
          exact EL.endK ⟨rfl, rfl, getB rfl (by first | exact decide_eq_decide.2 (by omega) | exact Eq.trans decide_not.symm (decide_eq_decide.2 (by omega)) | exact (decide_eq_false (by omega)).symm | exact (decide_eq_true (by omega)).symm), getB rfl (by first | exact decide_eq_decide.2 (by omega) | exact Eq.trans decide_not.symm (decide_eq_decide.2 (by omega)) | exact (decide_eq_false (by omega)).symm | exact (decide_eq_true (by omega)).symm), getB rfl (by first | exact decide_eq_decide.2 (by omega) | exact Eq.trans decide_not.symm (decide_eq_decide.2 (by omega)) | exact (decide_eq_false (by omega)).symm | exact (decide_eq_true (by omega)).symm), trivial⟩ (.i (by repeat constructor))
  refine .go ?_; repeat constructor
  refine EL.cut [(0, Sv l), (1, Uv b), (6, .bool (bUp b.toNat)), (7, .bool (bLo b.toNat)), (8, .bool (bDi b.toNat)), (9, .bool (bGr b.toNat))] [] ?_ ?_
  · refine .go ?_; repeat constructor
    refine EL.move rfl rfl rfl ?_
    refine EL.gtr rfl rfl rfl rfl ?_
    refine EL.move rfl rfl rfl ?_
    first | refine EL.splitD (d := 30) rfl (fun hp30 => ?_) (fun hp30 => ?_) | refine EL.splitN (d := 30) rfl (fun hp30 => ?_) (fun hp30 => ?_) | refine EL.splitB (d := 30) rfl (fun hp30 => ?_) (fun hp30 => ?_)
    · refine EL.move rfl rfl rfl ?_
      refine EL.lss rfl rfl rfl rfl ?_
      refine EL.pickT rfl rfl rfl rfl ?_
      refine EL.assign rfl rfl rfl ?_
      exact EL.endK ⟨rfl, rfl, rfl, rfl, rfl, getB rfl (by first | exact decide_eq_decide.2 (by omega) | exact Eq.trans decide_not.symm (decide_eq_decide.2 (by omega)) | exact (decide_eq_false (by omega)).symm | exact (decide_eq_true (by omega)).symm), trivial⟩ (.i (by repeat constructor))
    · refine EL.pass rfl rfl rfl ?_
      refine EL.pass rfl rfl rfl ?_
      refine EL.pickF rfl rfl rfl rfl ?_
      refine EL.assign rfl rfl rfl ?_
      exact EL.endK ⟨rfl, rfl, rfl, rfl, rfl, getB rfl (by first | exact decide_eq_decide.2 (by omega) | exact Eq.trans decide_not.symm (decide_eq_decide.2 (by omega)) | exact (decide_eq_false (by omega)).symm | exact (decide_eq_true (by omega)).symm), trivial⟩ (.i (by repeat constructor))
  refine .go ?_; repeat constructor
  refine EL.move rfl rfl rfl ?_
  refine .go ?_; repeat constructor
  refine EL.eqlS rfl rfl rfl rfl ?_
  refine EL.assign rfl rfl rfl ?_
  refine .go ?_; repeat constructor
  refine ES.condD rfl (fun he0 => ?_) (fun hn0 => ?_)
  · subst he0
    refine .go ?_; repeat constructor
    refine EL.move rfl rfl rfl ?_
    refine EL.move rfl rfl rfl ?_
    first | refine EL.splitD (d := 38) rfl (fun hp38 => ?_) (fun hp38 => ?_) | refine EL.splitN (d := 38) rfl (fun hp38 => ?_) (fun hp38 => ?_) | refine EL.splitB (d := 38) rfl (fun hp38 => ?_) (fun hp38 => ?_)
    · refine EL.pass rfl rfl rfl ?_
      refine EL.pickT rfl rfl rfl rfl ?_
      refine EL.assign rfl rfl rfl ?_
      refine EL.assign rfl rfl rfl ?_
      focus ((refine .go ?_; repeat constructor); exact PX.ret rfl Tryd.results27 (.cons (.tmp rfl) (.cons (.tmp rfl) .nil)) (fun w hs => ⟨(), congrArg (fun x => Ending.returned (.tuple #[.bool x, .bool true])) (by first | exact decide_eq_decide.2 (by omega) | exact Eq.trans decide_not.symm (decide_eq_decide.2 (by omega)) | exact (decide_eq_false (by omega)).symm | exact (decide_eq_true (by omega)).symm), hs.ent (.nil _)⟩))
    · refine EL.move rfl rfl rfl ?_
      refine EL.pickF rfl rfl rfl rfl ?_
      refine EL.assign rfl rfl rfl ?_
      refine EL.assign rfl rfl rfl ?_
      focus ((refine .go ?_; repeat constructor); exact PX.ret rfl Tryd.results27 (.cons (.tmp rfl) (.cons (.tmp rfl) .nil)) (fun w hs => ⟨(), congrArg (fun x => Ending.returned (.tuple #[.bool x, .bool true])) (by first | exact decide_eq_decide.2 (by omega) | exact Eq.trans decide_not.symm (decide_eq_decide.2 (by omega)) | exact (decide_eq_false (by omega)).symm | exact (decide_eq_true (by omega)).symm), hs.ent (.nil _)⟩))
  refine .go ?_; repeat constructor
  refine EL.eqlS rfl rfl rfl rfl ?_
  refine EL.assign rfl rfl rfl ?_
  refine .go ?_; repeat constructor
  refine ES.condD rfl (fun he1 => ?_) (fun hn1 => ?_)
  · subst he1
    refine .go ?_; repeat constructor
    refine EL.move rfl rfl rfl ?_
    refine EL.assign rfl rfl rfl ?_
    refine EL.assign rfl rfl rfl ?_
    focus ((refine .go ?_; repeat constructor); exact PX.ret rfl Tryd.results27 (.cons (.tmp rfl) (.cons (.tmp rfl) .nil)) (fun w hs => ⟨(), congrArg (fun x => Ending.returned (.tuple #[.bool x, .bool true])) (by first | exact decide_eq_decide.2 (by omega) | exact Eq.trans decide_not.symm (decide_eq_decide.2 (by omega)) | exact (decide_eq_false (by omega)).symm | exact (decide_eq_true (by omega)).symm), hs.ent (.nil _)⟩))
  refine .go ?_; repeat constructor
  refine EL.eqlS rfl rfl rfl rfl ?_
  refine EL.assign rfl rfl rfl ?_
  refine .go ?_; repeat constructor
  refine ES.condD rfl (fun he2 => ?_) (fun hn2 => ?_)
  · subst he2
    refine .go ?_; repeat constructor
    refine EL.move rfl rfl rfl ?_
    refine EL.move rfl rfl rfl ?_
    first | refine EL.splitD (d := 47) rfl (fun hp47 => ?_) (fun hp47 => ?_) | refine EL.splitN (d := 47) rfl (fun hp47 => ?_) (fun hp47 => ?_) | refine EL.splitB (d := 47) rfl (fun hp47 => ?_) (fun hp47 => ?_)
    · refine EL.pass rfl rfl rfl ?_
      refine EL.pickT rfl rfl rfl rfl ?_
      refine EL.move rfl rfl rfl ?_
      refine EL.pass rfl rfl rfl ?_
      refine EL.pickT rfl rfl rfl rfl ?_
      refine EL.assign rfl rfl rfl ?_
      refine EL.assign rfl rfl rfl ?_
      focus ((refine .go ?_; repeat constructor); exact PX.ret rfl Tryd.results27 (.cons (.tmp rfl) (.cons (.tmp rfl) .nil)) (fun w hs => ⟨(), congrArg (fun x => Ending.returned (.tuple #[.bool x, .bool true])) (by first | exact decide_eq_decide.2 (by omega) | exact Eq.trans decide_not.symm (decide_eq_decide.2 (by omega)) | exact (decide_eq_false (by omega)).symm | exact (decide_eq_true (by omega)).symm), hs.ent (.nil _)⟩))
    · refine EL.move rfl rfl rfl ?_
      refine EL.pickF rfl rfl rfl rfl ?_
      refine EL.move rfl rfl rfl ?_
      first | refine EL.splitD (d := 50) rfl (fun hp50 => ?_) (fun hp50 => ?_) | refine EL.splitN (d := 50) rfl (fun hp50 => ?_) (fun hp50 => ?_) | refine EL.splitB (d := 50) rfl (fun hp50 => ?_) (fun hp50 => ?_)
      · refine EL.pass rfl rfl rfl ?_
        refine EL.pickT rfl rfl rfl rfl ?_
        refine EL.assign rfl rfl rfl ?_
        refine EL.assign rfl rfl rfl ?_
        focus ((refine .go ?_; repeat constructor); exact PX.ret rfl Tryd.results27 (.cons (.tmp rfl) (.cons (.tmp rfl) .nil)) (fun w hs => ⟨(), congrArg (fun x => Ending.returned (.tuple #[.bool x, .bool true])) (by first | exact decide_eq_decide.2 (by omega) | exact Eq.trans decide_not.symm (decide_eq_decide.2 (by omega)) | exact (decide_eq_false (by omega)).symm | exact (decide_eq_true (by omega)).symm), hs.ent (.nil _)⟩))
      · refine EL.move rfl rfl rfl ?_
        refine EL.pickF rfl rfl rfl rfl ?_
        refine EL.assign rfl rfl rfl ?_
        refine EL.assign rfl rfl rfl ?_
        focus ((refine .go ?_; repeat constructor); exact PX.ret rfl Tryd.results27 (.cons (.tmp rfl) (.cons (.tmp rfl) .nil)) (fun w hs => ⟨(), congrArg (fun x => Ending.returned (.tuple #[.bool x, .bool true])) (by first | exact decide_eq_decide.2 (by omega) | exact Eq.trans decide_not.symm (decide_eq_decide.2 (by omega)) | exact (decide_eq_false (by omega)).symm | exact (decide_eq_true (by omega)).symm), hs.ent (.nil _)⟩))
  refine .go ?_; repeat constructor
  refine EL.eqlS rfl rfl rfl rfl ?_
  refine EL.assign rfl rfl rfl ?_
  refine .go ?_; repeat constructor
  refine ES.condD rfl (fun he3 => ?_) (fun hn3 => ?_)
  · subst he3
    refine .go ?_; repeat constructor
    refine EL.move rfl rfl rfl ?_
    refine EL.assign rfl rfl rfl ?_
    refine EL.assign rfl rfl rfl ?_
    focus ((refine .go ?_; repeat constructor); exact PX.ret rfl Tryd.results27 (.cons (.tmp rfl) (.cons (.tmp rfl) .nil)) (fun w hs => ⟨(), congrArg (fun x => Ending.returned (.tuple #[.bool x, .bool true])) (by first | exact decide_eq_decide.2 (by omega) | exact Eq.trans decide_not.symm (decide_eq_decide.2 (by omega)) | exact (decide_eq_false (by omega)).symm | exact (decide_eq_true (by omega)).symm), hs.ent (.nil _)⟩))
  refine .go ?_; repeat constructor
  refine EL.eqlS rfl rfl rfl rfl ?_
  refine EL.assign rfl rfl rfl ?_
  refine .go ?_; repeat constructor
  refine ES.condD rfl (fun he4 => ?_) (fun hn4 => ?_)
  · subst he4
    refine .go ?_; repeat constructor
    refine EL.move rfl rfl rfl ?_
    refine EL.assign rfl rfl rfl ?_
    refine EL.assign rfl rfl rfl ?_
    focus ((refine .go ?_; repeat constructor); exact PX.ret rfl Tryd.results27 (.cons (.tmp rfl) (.cons (.tmp rfl) .nil)) (fun w hs => ⟨(), congrArg (fun x => Ending.returned (.tuple #[.bool x, .bool true])) (by first | exact decide_eq_decide.2 (by omega) | exact Eq.trans decide_not.symm (decide_eq_decide.2 (by omega)) | exact (decide_eq_false (by omega)).symm | exact (decide_eq_true (by omega)).symm), hs.ent (.nil _)⟩))
  refine .go ?_; repeat constructor
  refine EL.eqlS rfl rfl rfl rfl ?_
  refine EL.assign rfl rfl rfl ?_
  refine .go ?_; repeat constructor
  refine ES.condD rfl (fun he5 => ?_) (fun hn5 => ?_)
  · subst he5
    refine .go ?_; repeat constructor
    refine EL.move rfl rfl rfl ?_
    refine EL.eqlI rfl rfl rfl rfl ?_
    refine EL.move rfl rfl rfl ?_
    first | refine EL.splitD (d := 63) rfl (fun hp63 => ?_) (fun hp63 => ?_) | refine EL.splitN (d := 63) rfl (fun hp63 => ?_) (fun hp63 => ?_) | refine EL.splitB (d := 63) rfl (fun hp63 => ?_) (fun hp63 => ?_)
    · refine EL.pass rfl rfl rfl ?_
      refine EL.pass rfl rfl rfl ?_
      refine EL.pass rfl rfl rfl ?_
      refine EL.pass rfl rfl rfl ?_
      refine EL.pass rfl rfl rfl ?_
      refine EL.pass rfl rfl rfl ?_
      refine EL.pickT rfl rfl rfl rfl ?_
      refine EL.assign rfl rfl rfl ?_
      refine EL.assign rfl rfl rfl ?_
      focus ((refine .go ?_; repeat constructor); exact PX.ret rfl Tryd.results27 (.cons (.tmp rfl) (.cons (.tmp rfl) .nil)) (fun w hs => ⟨(), congrArg (fun x => Ending.returned (.tuple #[.bool x, .bool true])) (by first | exact decide_eq_decide.2 (by omega) | exact Eq.trans decide_not.symm (decide_eq_decide.2 (by omega)) | exact (decide_eq_false (by omega)).symm | exact (decide_eq_true (by omega)).symm), hs.ent (.nil _)⟩))
    · refine EL.move rfl rfl rfl ?_
      refine EL.geq rfl rfl rfl rfl ?_
      refine EL.move rfl rfl rfl ?_
      first | refine EL.splitD (d := 66) rfl (fun hp66 => ?_) (fun hp66 => ?_) | refine EL.splitN (d := 66) rfl (fun hp66 => ?_) (fun hp66 => ?_) | refine EL.splitB (d := 66) rfl (fun hp66 => ?_) (fun hp66 => ?_)
      · refine EL.move rfl rfl rfl ?_
        refine EL.leq rfl rfl rfl rfl ?_
        refine EL.pickT rfl rfl rfl rfl ?_
        refine EL.pickF rfl rfl rfl rfl ?_
        refine EL.assign rfl rfl rfl ?_
        refine EL.assign rfl rfl rfl ?_
        focus ((refine .go ?_; repeat constructor); exact PX.ret rfl Tryd.results27 (.cons (.tmp rfl) (.cons (.tmp rfl) .nil)) (fun w hs => ⟨(), congrArg (fun x => Ending.returned (.tuple #[.bool x, .bool true])) (by first | exact decide_eq_decide.2 (by omega) | exact Eq.trans decide_not.symm (decide_eq_decide.2 (by omega)) | exact (decide_eq_false (by omega)).symm | exact (decide_eq_true (by omega)).symm), hs.ent (.nil _)⟩))
      · refine EL.pass rfl rfl rfl ?_
        refine EL.pass rfl rfl rfl ?_
        refine EL.pickF rfl rfl rfl rfl ?_
        refine EL.pickF rfl rfl rfl rfl ?_
        refine EL.assign rfl rfl rfl ?_
        refine EL.assign rfl rfl rfl ?_
        focus ((refine .go ?_; repeat constructor); exact PX.ret rfl Tryd.results27 (.cons (.tmp rfl) (.cons (.tmp rfl) .nil)) (fun w hs => ⟨(), congrArg (fun x => Ending.returned (.tuple #[.bool x, .bool true])) (by first | exact decide_eq_decide.2 (by omega) | exact Eq.trans decide_not.symm (decide_eq_decide.2 (by omega)) | exact (decide_eq_false (by omega)).symm | exact (decide_eq_true (by omega)).symm), hs.ent (.nil _)⟩))
  refine .go ?_; repeat constructor
  refine EL.eqlS rfl rfl rfl rfl ?_
  refine EL.assign rfl rfl rfl ?_
  refine .go ?_; repeat constructor
  refine ES.condD rfl (fun he6 => ?_) (fun hn6 => ?_)
  · subst he6
    refine .go ?_; repeat constructor
    refine EL.move rfl rfl rfl ?_
    refine EL.eqlI rfl rfl rfl rfl ?_
    refine EL.move rfl rfl rfl ?_
    first | refine EL.splitD (d := 75) rfl (fun hp75 => ?_) (fun hp75 => ?_) | refine EL.splitN (d := 75) rfl (fun hp75 => ?_) (fun hp75 => ?_) | refine EL.splitB (d := 75) rfl (fun hp75 => ?_) (fun hp75 => ?_)
    · refine EL.pass rfl rfl rfl ?_
      refine EL.pass rfl rfl rfl ?_
      refine EL.pickT rfl rfl rfl rfl ?_
      refine EL.assign rfl rfl rfl ?_
      refine EL.assign rfl rfl rfl ?_
      focus ((refine .go ?_; repeat constructor); exact PX.ret rfl Tryd.results27 (.cons (.tmp rfl) (.cons (.tmp rfl) .nil)) (fun w hs => ⟨(), congrArg (fun x => Ending.returned (.tuple #[.bool x, .bool true])) (by first | exact decide_eq_decide.2 (by omega) | exact Eq.trans decide_not.symm (decide_eq_decide.2 (by omega)) | exact (decide_eq_false (by omega)).symm | exact (decide_eq_true (by omega)).symm), hs.ent (.nil _)⟩))
    · refine EL.move rfl rfl rfl ?_
      refine EL.eqlI rfl rfl rfl rfl ?_
      refine EL.pickF rfl rfl rfl rfl ?_
      refine EL.assign rfl rfl rfl ?_
      refine EL.assign rfl rfl rfl ?_
      focus ((refine .go ?_; repeat constructor); exact PX.ret rfl Tryd.results27 (.cons (.tmp rfl) (.cons (.tmp rfl) .nil)) (fun w hs => ⟨(), congrArg (fun x => Ending.returned (.tuple #[.bool x, .bool true])) (by first | exact decide_eq_decide.2 (by omega) | exact Eq.trans decide_not.symm (decide_eq_decide.2 (by omega)) | exact (decide_eq_false (by omega)).symm | exact (decide_eq_true (by omega)).symm), hs.ent (.nil _)⟩))
  refine .go ?_; repeat constructor
  refine EL.eqlS rfl rfl rfl rfl ?_
  refine EL.assign rfl rfl rfl ?_
  refine .go ?_; repeat constructor
  refine ES.condD rfl (fun he7 => ?_) (fun hn7 => ?_)
  · subst he7
    refine .go ?_; repeat constructor
    refine EL.move rfl rfl rfl ?_
    refine EL.assign rfl rfl rfl ?_
    refine EL.assign rfl rfl rfl ?_
    focus ((refine .go ?_; repeat constructor); exact PX.ret rfl Tryd.results27 (.cons (.tmp rfl) (.cons (.tmp rfl) .nil)) (fun w hs => ⟨(), congrArg (fun x => Ending.returned (.tuple #[.bool x, .bool true])) (by first | exact decide_eq_decide.2 (by omega) | exact Eq.trans decide_not.symm (decide_eq_decide.2 (by omega)) | exact (decide_eq_false (by omega)).symm | exact (decide_eq_true (by omega)).symm), hs.ent (.nil _)⟩))
  refine .go ?_; repeat constructor
  refine EL.eqlS rfl rfl rfl rfl ?_
  refine EL.assign rfl rfl rfl ?_
  refine .go ?_; repeat constructor
  refine ES.condD rfl (fun he8 => ?_) (fun hn8 => ?_)
  · subst he8
    refine .go ?_; repeat constructor
    refine EL.move rfl rfl rfl ?_
    refine EL.move rfl rfl rfl ?_
    first | refine EL.splitD (d := 85) rfl (fun hp85 => ?_) (fun hp85 => ?_) | refine EL.splitN (d := 85) rfl (fun hp85 => ?_) (fun hp85 => ?_) | refine EL.splitB (d := 85) rfl (fun hp85 => ?_) (fun hp85 => ?_)
    · refine EL.pass rfl rfl rfl ?_
      refine EL.pass rfl rfl rfl ?_
      refine EL.pickT rfl rfl rfl rfl ?_
      refine EL.assign rfl rfl rfl ?_
      refine EL.assign rfl rfl rfl ?_
      focus ((refine .go ?_; repeat constructor); exact PX.ret rfl Tryd.results27 (.cons (.tmp rfl) (.cons (.tmp rfl) .nil)) (fun w hs => ⟨(), congrArg (fun x => Ending.returned (.tuple #[.bool x, .bool true])) (by first | exact decide_eq_decide.2 (by omega) | exact Eq.trans decide_not.symm (decide_eq_decide.2 (by omega)) | exact (decide_eq_false (by omega)).symm | exact (decide_eq_true (by omega)).symm), hs.ent (.nil _)⟩))
    · refine EL.move rfl rfl rfl ?_
      refine EL.eqlI rfl rfl rfl rfl ?_
      refine EL.pickF rfl rfl rfl rfl ?_
      refine EL.assign rfl rfl rfl ?_
      refine EL.assign rfl rfl rfl ?_
      focus ((refine .go ?_; repeat constructor); exact PX.ret rfl Tryd.results27 (.cons (.tmp rfl) (.cons (.tmp rfl) .nil)) (fun w hs => ⟨(), congrArg (fun x => Ending.returned (.tuple #[.bool x, .bool true])) (by first | exact decide_eq_decide.2 (by omega) | exact Eq.trans decide_not.symm (decide_eq_decide.2 (by omega)) | exact (decide_eq_false (by omega)).symm | exact (decide_eq_true (by omega)).symm), hs.ent (.nil _)⟩))
  refine .go ?_; repeat constructor
  refine EL.eqlS rfl rfl rfl rfl ?_
  refine EL.assign rfl rfl rfl ?_
  refine .go ?_; repeat constructor
  refine ES.condD rfl (fun he9 => ?_) (fun hn9 => ?_)
  · subst he9
    refine .go ?_; repeat constructor
    refine EL.move rfl rfl rfl ?_
    refine EL.move rfl rfl rfl ?_
    first | refine EL.splitD (d := 92) rfl (fun hp92 => ?_) (fun hp92 => ?_) | refine EL.splitN (d := 92) rfl (fun hp92 => ?_) (fun hp92 => ?_) | refine EL.splitB (d := 92) rfl (fun hp92 => ?_) (fun hp92 => ?_)
    · refine EL.move rfl rfl rfl ?_
      refine EL.not rfl rfl rfl ?_
      refine EL.pickT rfl rfl rfl rfl ?_
      refine EL.move rfl rfl rfl ?_
      first | refine EL.splitD (d := 96) rfl (fun hp96 => ?_) (fun hp96 => ?_) | refine EL.splitN (d := 96) rfl (fun hp96 => ?_) (fun hp96 => ?_) | refine EL.splitB (d := 96) rfl (fun hp96 => ?_) (fun hp96 => ?_)
      · refine EL.move rfl rfl rfl ?_
        refine EL.not rfl rfl rfl ?_
        refine EL.pickT rfl rfl rfl rfl ?_
        refine EL.move rfl rfl rfl ?_
        first | refine EL.splitD (d := 100) rfl (fun hp100 => ?_) (fun hp100 => ?_) | refine EL.splitN (d := 100) rfl (fun hp100 => ?_) (fun hp100 => ?_) | refine EL.splitB (d := 100) rfl (fun hp100 => ?_) (fun hp100 => ?_)
        · refine EL.move rfl rfl rfl ?_
          refine EL.not rfl rfl rfl ?_
          refine EL.pickT rfl rfl rfl rfl ?_
          refine EL.assign rfl rfl rfl ?_
          refine EL.assign rfl rfl rfl ?_
          focus ((refine .go ?_; repeat constructor); exact PX.ret rfl Tryd.results27 (.cons (.tmp rfl) (.cons (.tmp rfl) .nil)) (fun w hs => ⟨(), congrArg (fun x => Ending.returned (.tuple #[.bool x, .bool true])) (by first | exact decide_eq_decide.2 (by omega) | exact Eq.trans decide_not.symm (decide_eq_decide.2 (by omega)) | exact (decide_eq_false (by omega)).symm | exact (decide_eq_true (by omega)).symm), hs.ent (.nil _)⟩))
        · refine EL.pass rfl rfl rfl ?_
          refine EL.pass rfl rfl rfl ?_
          refine EL.pickF rfl rfl rfl rfl ?_
          refine EL.assign rfl rfl rfl ?_
          refine EL.assign rfl rfl rfl ?_
          focus ((refine .go ?_; repeat constructor); exact PX.ret rfl Tryd.results27 (.cons (.tmp rfl) (.cons (.tmp rfl) .nil)) (fun w hs => ⟨(), congrArg (fun x => Ending.returned (.tuple #[.bool x, .bool true])) (by first | exact decide_eq_decide.2 (by omega) | exact Eq.trans decide_not.symm (decide_eq_decide.2 (by omega)) | exact (decide_eq_false (by omega)).symm | exact (decide_eq_true (by omega)).symm), hs.ent (.nil _)⟩))
      · refine EL.pass rfl rfl rfl ?_
        refine EL.pass rfl rfl rfl ?_
        refine EL.pickF rfl rfl rfl rfl ?_
        refine EL.move rfl rfl rfl ?_
        refine EL.pass rfl rfl rfl ?_
        refine EL.pass rfl rfl rfl ?_
        refine EL.pickF rfl rfl rfl rfl ?_
        refine EL.assign rfl rfl rfl ?_
        refine EL.assign rfl rfl rfl ?_
        focus ((refine .go ?_; repeat constructor); exact PX.ret rfl Tryd.results27 (.cons (.tmp rfl) (.cons (.tmp rfl) .nil)) (fun w hs => ⟨(), congrArg (fun x => Ending.returned (.tuple #[.bool x, .bool true])) (by first | exact decide_eq_decide.2 (by omega) | exact Eq.trans decide_not.symm (decide_eq_decide.2 (by omega)) | exact (decide_eq_false (by omega)).symm | exact (decide_eq_true (by omega)).symm), hs.ent (.nil _)⟩))
    · refine EL.pass rfl rfl rfl ?_
      refine EL.pass rfl rfl rfl ?_
      refine EL.pickF rfl rfl rfl rfl ?_
      refine EL.move rfl rfl rfl ?_
      refine EL.pass rfl rfl rfl ?_
      refine EL.pass rfl rfl rfl ?_
      refine EL.pickF rfl rfl rfl rfl ?_
      refine EL.move rfl rfl rfl ?_
      refine EL.pass rfl rfl rfl ?_
      refine EL.pass rfl rfl rfl ?_
      refine EL.pickF rfl rfl rfl rfl ?_
      refine EL.assign rfl rfl rfl ?_
      refine EL.assign rfl rfl rfl ?_
      focus ((refine .go ?_; repeat constructor); exact PX.ret rfl Tryd.results27 (.cons (.tmp rfl) (.cons (.tmp rfl) .nil)) (fun w hs => ⟨(), congrArg (fun x => Ending.returned (.tuple #[.bool x, .bool true])) (by first | exact decide_eq_decide.2 (by omega) | exact Eq.trans decide_not.symm (decide_eq_decide.2 (by omega)) | exact (decide_eq_false (by omega)).symm | exact (decide_eq_true (by omega)).symm), hs.ent (.nil _)⟩))
  refine .go ?_; repeat constructor
  refine EL.eqlS rfl rfl rfl rfl ?_
  refine EL.assign rfl rfl rfl ?_
  refine .go ?_; repeat constructor
  refine ES.condD rfl (fun he10 => ?_) (fun hn10 => ?_)
  · subst he10
    refine .go ?_; repeat constructor
    refine EL.move rfl rfl rfl ?_
    refine EL.lss rfl rfl rfl rfl ?_
    refine EL.move rfl rfl rfl ?_
    first | refine EL.splitD (d := 108) rfl (fun hp108 => ?_) (fun hp108 => ?_) | refine EL.splitN (d := 108) rfl (fun hp108 => ?_) (fun hp108 => ?_) | refine EL.splitB (d := 108) rfl (fun hp108 => ?_) (fun hp108 => ?_)
    · refine EL.pass rfl rfl rfl ?_
      refine EL.pass rfl rfl rfl ?_
      refine EL.pickT rfl rfl rfl rfl ?_
      refine EL.assign rfl rfl rfl ?_
      refine EL.assign rfl rfl rfl ?_
      focus ((refine .go ?_; repeat constructor); exact PX.ret rfl Tryd.results27 (.cons (.tmp rfl) (.cons (.tmp rfl) .nil)) (fun w hs => ⟨(), congrArg (fun x => Ending.returned (.tuple #[.bool x, .bool true])) (by first | exact decide_eq_decide.2 (by omega) | exact Eq.trans decide_not.symm (decide_eq_decide.2 (by omega)) | exact (decide_eq_false (by omega)).symm | exact (decide_eq_true (by omega)).symm), hs.ent (.nil _)⟩))
    · refine EL.move rfl rfl rfl ?_
      refine EL.eqlI rfl rfl rfl rfl ?_
      refine EL.pickF rfl rfl rfl rfl ?_
      refine EL.assign rfl rfl rfl ?_
      refine EL.assign rfl rfl rfl ?_
      focus ((refine .go ?_; repeat constructor); exact PX.ret rfl Tryd.results27 (.cons (.tmp rfl) (.cons (.tmp rfl) .nil)) (fun w hs => ⟨(), congrArg (fun x => Ending.returned (.tuple #[.bool x, .bool true])) (by first | exact decide_eq_decide.2 (by omega) | exact Eq.trans decide_not.symm (decide_eq_decide.2 (by omega)) | exact (decide_eq_false (by omega)).symm | exact (decide_eq_true (by omega)).symm), hs.ent (.nil _)⟩))
  refine .go ?_; repeat constructor
  refine EL.eqlS rfl rfl rfl rfl ?_
  refine EL.assign rfl rfl rfl ?_
  refine .go ?_; repeat constructor
  refine ES.condD rfl (fun he11 => ?_) (fun hn11 => ?_)
  · subst he11
    refine .go ?_; repeat constructor
    refine EL.move rfl rfl rfl ?_
    refine EL.move rfl rfl rfl ?_
    first | refine EL.splitD (d := 115) rfl (fun hp115 => ?_) (fun hp115 => ?_) | refine EL.splitN (d := 115) rfl (fun hp115 => ?_) (fun hp115 => ?_) | refine EL.splitB (d := 115) rfl (fun hp115 => ?_) (fun hp115 => ?_)
    · refine EL.pass rfl rfl rfl ?_
      refine EL.pass rfl rfl rfl ?_
      refine EL.pass rfl rfl rfl ?_
      refine EL.pass rfl rfl rfl ?_
      refine EL.pass rfl rfl rfl ?_
      refine EL.pass rfl rfl rfl ?_
      refine EL.pickT rfl rfl rfl rfl ?_
      refine EL.move rfl rfl rfl ?_
      refine EL.pass rfl rfl rfl ?_
      refine EL.pass rfl rfl rfl ?_
      refine EL.pass rfl rfl rfl ?_
      refine EL.pass rfl rfl rfl ?_
      refine EL.pass rfl rfl rfl ?_
      refine EL.pass rfl rfl rfl ?_
      refine EL.pickT rfl rfl rfl rfl ?_
      refine EL.assign rfl rfl rfl ?_
      refine EL.assign rfl rfl rfl ?_
      focus ((refine .go ?_; repeat constructor); exact PX.ret rfl Tryd.results27 (.cons (.tmp rfl) (.cons (.tmp rfl) .nil)) (fun w hs => ⟨(), congrArg (fun x => Ending.returned (.tuple #[.bool x, .bool true])) (by first | exact decide_eq_decide.2 (by omega) | exact Eq.trans decide_not.symm (decide_eq_decide.2 (by omega)) | exact (decide_eq_false (by omega)).symm | exact (decide_eq_true (by omega)).symm), hs.ent (.nil _)⟩))
    · refine EL.move rfl rfl rfl ?_
      refine EL.geq rfl rfl rfl rfl ?_
      refine EL.move rfl rfl rfl ?_
      first | refine EL.splitD (d := 118) rfl (fun hp118 => ?_) (fun hp118 => ?_) | refine EL.splitN (d := 118) rfl (fun hp118 => ?_) (fun hp118 => ?_) | refine EL.splitB (d := 118) rfl (fun hp118 => ?_) (fun hp118 => ?_)
      · refine EL.move rfl rfl rfl ?_
        refine EL.leq rfl rfl rfl rfl ?_
        refine EL.pickT rfl rfl rfl rfl ?_
        refine EL.pickF rfl rfl rfl rfl ?_
        refine EL.move rfl rfl rfl ?_
        first | refine EL.splitD (d := 123) rfl (fun hp123 => ?_) (fun hp123 => ?_) | refine EL.splitN (d := 123) rfl (fun hp123 => ?_) (fun hp123 => ?_) | refine EL.splitB (d := 123) rfl (fun hp123 => ?_) (fun hp123 => ?_)
        · refine EL.pass rfl rfl rfl ?_
          refine EL.pass rfl rfl rfl ?_
          refine EL.pass rfl rfl rfl ?_
          refine EL.pass rfl rfl rfl ?_
          refine EL.pass rfl rfl rfl ?_
          refine EL.pass rfl rfl rfl ?_
          refine EL.pickT rfl rfl rfl rfl ?_
          refine EL.assign rfl rfl rfl ?_
          refine EL.assign rfl rfl rfl ?_
          focus ((refine .go ?_; repeat constructor); exact PX.ret rfl Tryd.results27 (.cons (.tmp rfl) (.cons (.tmp rfl) .nil)) (fun w hs => ⟨(), congrArg (fun x => Ending.returned (.tuple #[.bool x, .bool true])) (by first | exact decide_eq_decide.2 (by omega) | exact Eq.trans decide_not.symm (decide_eq_decide.2 (by omega)) | exact (decide_eq_false (by omega)).symm | exact (decide_eq_true (by omega)).symm), hs.ent (.nil _)⟩))
        · refine EL.move rfl rfl rfl ?_
          refine EL.geq rfl rfl rfl rfl ?_
          refine EL.move rfl rfl rfl ?_
          first | refine EL.splitD (d := 126) rfl (fun hp126 => ?_) (fun hp126 => ?_) | refine EL.splitN (d := 126) rfl (fun hp126 => ?_) (fun hp126 => ?_) | refine EL.splitB (d := 126) rfl (fun hp126 => ?_) (fun hp126 => ?_)
          · refine EL.move rfl rfl rfl ?_
            refine EL.leq rfl rfl rfl rfl ?_
            refine EL.pickT rfl rfl rfl rfl ?_
            refine EL.pickF rfl rfl rfl rfl ?_
            refine EL.assign rfl rfl rfl ?_
            refine EL.assign rfl rfl rfl ?_
            focus ((refine .go ?_; repeat constructor); exact PX.ret rfl Tryd.results27 (.cons (.tmp rfl) (.cons (.tmp rfl) .nil)) (fun w hs => ⟨(), congrArg (fun x => Ending.returned (.tuple #[.bool x, .bool true])) (by first | exact decide_eq_decide.2 (by omega) | exact Eq.trans decide_not.symm (decide_eq_decide.2 (by omega)) | exact (decide_eq_false (by omega)).symm | exact (decide_eq_true (by omega)).symm), hs.ent (.nil _)⟩))
          · refine EL.pass rfl rfl rfl ?_
            refine EL.pass rfl rfl rfl ?_
            refine EL.pickF rfl rfl rfl rfl ?_
            refine EL.pickF rfl rfl rfl rfl ?_
            refine EL.assign rfl rfl rfl ?_
            refine EL.assign rfl rfl rfl ?_
            focus ((refine .go ?_; repeat constructor); exact PX.ret rfl Tryd.results27 (.cons (.tmp rfl) (.cons (.tmp rfl) .nil)) (fun w hs => ⟨(), congrArg (fun x => Ending.returned (.tuple #[.bool x, .bool true])) (by first | exact decide_eq_decide.2 (by omega) | exact Eq.trans decide_not.symm (decide_eq_decide.2 (by omega)) | exact (decide_eq_false (by omega)).symm | exact (decide_eq_true (by omega)).symm), hs.ent (.nil _)⟩))
      · refine EL.pass rfl rfl rfl ?_
        refine EL.pass rfl rfl rfl ?_
        refine EL.pickF rfl rfl rfl rfl ?_
        refine EL.pickF rfl rfl rfl rfl ?_
        refine EL.move rfl rfl rfl ?_
        refine EL.move rfl rfl rfl ?_
        refine EL.geq rfl rfl rfl rfl ?_
        refine EL.move rfl rfl rfl ?_
        first | refine EL.splitD (d := 126) rfl (fun hp126 => ?_) (fun hp126 => ?_) | refine EL.splitN (d := 126) rfl (fun hp126 => ?_) (fun hp126 => ?_) | refine EL.splitB (d := 126) rfl (fun hp126 => ?_) (fun hp126 => ?_)
        · refine EL.move rfl rfl rfl ?_
          refine EL.leq rfl rfl rfl rfl ?_
          refine EL.pickT rfl rfl rfl rfl ?_
          refine EL.pickF rfl rfl rfl rfl ?_
          refine EL.assign rfl rfl rfl ?_
          refine EL.assign rfl rfl rfl ?_
          focus ((refine .go ?_; repeat constructor); exact PX.ret rfl Tryd.results27 (.cons (.tmp rfl) (.cons (.tmp rfl) .nil)) (fun w hs => ⟨(), congrArg (fun x => Ending.returned (.tuple #[.bool x, .bool true])) (by first | exact decide_eq_decide.2 (by omega) | exact Eq.trans decide_not.symm (decide_eq_decide.2 (by omega)) | exact (decide_eq_false (by omega)).symm | exact (decide_eq_true (by omega)).symm), hs.ent (.nil _)⟩))
        · refine EL.pass rfl rfl rfl ?_
          refine EL.pass rfl rfl rfl ?_
          refine EL.pickF rfl rfl rfl rfl ?_
          refine EL.pickF rfl rfl rfl rfl ?_
          refine EL.assign rfl rfl rfl ?_
          refine EL.assign rfl rfl rfl ?_
          focus ((refine .go ?_; repeat constructor); exact PX.ret rfl Tryd.results27 (.cons (.tmp rfl) (.cons (.tmp rfl) .nil)) (fun w hs => ⟨(), congrArg (fun x => Ending.returned (.tuple #[.bool x, .bool true])) (by first | exact decide_eq_decide.2 (by omega) | exact Eq.trans decide_not.symm (decide_eq_decide.2 (by omega)) | exact (decide_eq_false (by omega)).symm | exact (decide_eq_true (by omega)).symm), hs.ent (.nil _)⟩))
  have hne : isB l b.toNat = false := by simp only [isB, *, if_false]
  have hno : okM l = false := decide_eq_false (by simp only [names12, List.mem_cons, List.not_mem_nil, or_false, *, not_false_eq_true])
  refine .go ?_; repeat constructor
  refine EL.assign rfl rfl rfl ?_
  refine EL.assign rfl rfl rfl ?_
  refine .go ?_; repeat constructor
  exact PX.ret rfl Tryd.results27 (.cons (.tmp rfl) (.cons (.tmp rfl) .nil)) (fun w hs => ⟨(), by rw [hne, hno]; rfl, hs.ent (.nil _)⟩)
theorem is_ck (l : List UInt8) (b : UInt8) (k : Nat) (hk : b.toNat = k) (w : World) : Pure Tryd.prog 27 #[Sv l, Uv b] (fun _ : Unit => .tuple #[.bool (isB l k), .bool (okM l)]) (fun _ => []) w := by subst hk; exact is_c l b w
theorem add_ck (g : Nat) (s : BS) (b : UInt8) (k : Nat) (hk : b.toNat = k) : Mut Tryd.prog 10 #[Pv g 0, Uv b] [SB g s] (fun _ : Unit => .tuple #[]) (fun _ => [SB g (addS s k)]) := by subst hk; exact add_c g s b
theorem class_c (l : List UInt8) (w : World) : Pure Tryd.prog 24 #[Sv l] (fun _ : Unit => .tuple #[Bs (classM l).1, Iv (classM l).2]) (fun _ => []) w := by
  refine calls_of_ES TB Tryd.func24 rfl _ Tryd.ntmps24 rfl (Sat.start w) ?_
  refine .go ?_; repeat constructor
  (refine EL.alloc rfl rfl rfl ?_; intro g2)
  refine EL.assign rfl rfl rfl ?_
  refine .go ?_; repeat constructor
  (refine EL.alloc rfl rfl rfl ?_; intro g4)
  refine .go ?_; repeat constructor
  refine EL.move rfl rfl rfl ?_
  refine .go ?_; repeat constructor
  refine ES.blkEq (g := g4) (o' := .cells (fillS (isB l) 0).cells 24) (by repeat constructor) (by rw [fillS]; rfl) ?_
  refine ES.loop (σ := Nat) (fun i => i ≤ 256 ∧ (0 < i → l ∈ names12)) (fun i => [(0, Sv l), (2, Pv g2 0), (4, Pv g4 0), (8, Iv i)]) (fun i => [SB g4 (fillS (isB l) i), SB g2 zeroS]) (fun i => 256 - i) 0 ⟨by omega, fun h => absurd h (by omega)⟩ ⟨rfl, rfl, rfl, rfl, trivial⟩ (.i (by repeat constructor)) ?_
  rintro i ⟨hi, hpos⟩
  refine .go ?_; repeat constructor
  refine EL.lss rfl rfl rfl rfl ?_
  refine .go ?_; repeat constructor
  refine ES.condD rfl (fun hlt => ?_) (fun hge => ?_)
  · have hlt' : i < 256 := by omega
    have hk8 : (UInt8.ofNat i).toNat = i := by simp; omega
    have ha := add_ck g4 (fillS (isB l) i) (UInt8.ofNat i) i hk8
    refine .go ?_; repeat constructor
    refine EL.move rfl rfl rfl ?_
    refine EL.assign rfl rfl rfl ?_
    refine .go ?_; repeat constructor
    refine EL.move rfl rfl rfl ?_
    refine EL.move rfl rfl rfl ?_
    refine EL.convI ((UInt8.ofNat i).toNat : Int) rfl rfl rfl rfl rfl rfl (by rw [hk8]; exact wrap_u8 _ hlt') ?_
    refine EL.callP rfl rfl rfl ent27 rfl (is_ck l (UInt8.ofNat i) i hk8) ?_
    refine EL.move rfl rfl rfl ?_
    refine EL.extract rfl rfl rfl rfl ?_
    refine EL.extract rfl rfl rfl rfl ?_
    refine EL.assign rfl rfl rfl ?_
    refine EL.assign rfl rfl rfl ?_
    refine .go ?_; repeat constructor
    refine EL.move rfl rfl rfl ?_
    refine EL.not rfl rfl rfl ?_
    refine .go ?_; repeat constructor
    refine ES.condN (p := l ∈ names12) rfl (fun hno => ?_) (fun hok => ?_)
    · have hok0 : okM l = false := decide_eq_false hno
      have hm : classM l = (zeroS, 8) := by simp only [classM, hok0, Bool.false_eq_true, if_false]
      refine .go ?_; repeat constructor
      refine EL.buildZA rfl rfl rfl rfl rfl ?_
      (apply EL.storeAll; exact rfl; exact rfl; exact rfl; exact rfl; exact rfl; (case p => repeat constructor); exact rfl; (case h1 => exact (by first | rfl | exact all1 rfl | (intro u hu; simp only [List.mem_cons, List.not_mem_nil, or_false] at hu; rcases hu with rfl | rfl | rfl | rfl <;> rfl) | (intro u hu; simp at hu; rcases hu with rfl | rfl | rfl | rfl <;> rfl) | (intro u hu; simp at hu; rcases hu with rfl | rfl | rfl <;> rfl) | (intro u hu; simp at hu; rcases hu with rfl | rfl <;> rfl) | (intro u hu; simp at hu; obtain ⟨_, _, rfl⟩ := hu; rfl))))
      refine EL.assign rfl rfl rfl ?_
      refine .go ?_; repeat constructor
      exact PX.ret rfl Tryd.results24 (.cons (.blkA rfl rfl rfl (by repeat constructor) rfl) (.cons (.tmp rfl) .nil)) (fun w hs => ⟨(), by rw [hm]; rfl, hs.ent (.nil _)⟩)
    · have hfs : ∀ hb : isB l i = true, addS (fillS (isB l) i) i = fillS (isB l) (i + 1) := fun hb => by rw [fillS, if_pos hb]
      have hfn : ∀ hb : isB l i = false, fillS (isB l) i = fillS (isB l) (i + 1) := fun hb => by rw [fillS, if_neg (by rw [hb]; simp)]
      refine .go ?_; repeat constructor
      refine EL.move rfl rfl rfl ?_
      refine .go ?_; repeat constructor
      refine ES.cutC (X := Unit) (fun _ => [(0, Sv l), (2, Pv g2 0), (4, Pv g4 0), (8, Iv i)]) (fun _ => [SB g4 (fillS (isB l) (i + 1)), SB g2 zeroS]) ?_ (fun _ => ?_)
      · refine ES.cond rfl (fun hb => ?_) (fun hb => ?_)
        · rw [hfs hb] at ha
          refine .go ?_; repeat constructor
          refine EL.move rfl rfl rfl ?_
          refine EL.convI ((UInt8.ofNat i).toNat : Int) rfl rfl rfl rfl rfl rfl (by rw [hk8]; exact wrap_u8 _ hlt') ?_
          refine EL.callM1 rfl rfl rfl ent10 rfl ha (by repeat constructor) ?_
          refine .go ?_; repeat constructor
          exact PX.cutX () ⟨rfl, rfl, rfl, rfl, trivial⟩ (.i (by repeat constructor))
        · rw [hfn hb]
          refine .go ?_; repeat constructor
          exact PX.cutX () ⟨rfl, rfl, rfl, rfl, trivial⟩ (.i (by repeat constructor))
      refine .go ?_; repeat constructor
      refine EL.add1 rfl rfl rfl rfl (by omega) ?_
      refine EL.move rfl rfl rfl ?_
      refine .go ?_; repeat constructor
      exact PX.loop (i + 1) ⟨by omega, fun _ => hok⟩ (by omega) ⟨rfl, rfl, rfl, rfl, trivial⟩ (.i (by repeat constructor))
  · obtain rfl : i = 256 := by omega
    have hok1 : okM l = true := decide_eq_true (hpos (by omega))
    have hm : classM l = (fillS (isB l) 256, 0) := by simp only [classM, hok1, if_true]
    refine .go ?_; repeat constructor
    (apply EL.loadAggB; exact rfl; exact rfl; exact rfl; exact rfl; exact rfl; (case hm => repeat constructor); exact rfl)
    (apply EL.storeAll; exact rfl; exact rfl; exact rfl; exact rfl; exact rfl; (case p => repeat constructor); exact rfl; (case h1 => exact (by first | rfl | exact all1 rfl | (intro u hu; simp only [List.mem_cons, List.not_mem_nil, or_false] at hu; rcases hu with rfl | rfl | rfl | rfl <;> rfl) | (intro u hu; simp at hu; rcases hu with rfl | rfl | rfl | rfl <;> rfl) | (intro u hu; simp at hu; rcases hu with rfl | rfl | rfl <;> rfl) | (intro u hu; simp at hu; rcases hu with rfl | rfl <;> rfl) | (intro u hu; simp at hu; obtain ⟨_, _, rfl⟩ := hu; rfl))))
    refine EL.assign rfl rfl rfl ?_
    refine .go ?_; repeat constructor
    exact PX.ret rfl Tryd.results24 (.cons (.blkA rfl rfl rfl (by repeat constructor) rfl) (.cons (.tmp rfl) .nil)) (fun w hs => ⟨(), by rw [hm]; rfl, hs.ent (.nil _)⟩)
end Go.Proofs.YtgoopgnnkhpmlaaDoor
