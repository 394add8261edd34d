/- Layer 7 (nfa): the automaton in memory; add. -/
import Derived.Test.YtblpgpgbnlhjlaaAc
namespace Go.Proofs.Ytblpgpgbnlhjlaa
open Go Go.RowKit Sl
set_option maxRecDepth 100000
set_option maxHeartbeats 8000000
set_option linter.unusedVariables false
set_option linter.unusedSimpArgs false
attribute [local irreducible] ES EL PX wps

def edC (e : Ed) : List Value := [Iv (e.kind : Nat), Wv e.set.a, Wv e.set.b, Wv e.set.c, Wv e.set.d, Iv (e.to : Nat)]
def edsC (es : List Ed) : List Value := es.flatMap edC
theorem edsC_len : ∀ es : List Ed, (edsC es).length = es.length * 6
  | [] => rfl
  | e :: es => by
    have := edsC_len es
    simp only [edsC, List.flatMap_cons, List.length_append, List.length_cons] at this ⊢
    rw [this]; simp only [edC, List.length_cons, List.length_nil]; omega
/-- Rows of edges, by their slices. -/
abbrev EP := Value × List Ed
abbrev edRow (p : EP) : HA := HA.row p.1 215 6 p.2.length (edsC p.2)
def HA.edg (ps : List EP) : HA := ⟨ps.flatMap fun p => p.1.ownBlock.toList, fun w => ∀ p ∈ ps, w.ownsRow 0 215 6 p.1 p.2.length (edsC p.2), fun w w' h hw p hp => ownsRow_loc (fun g hg => h g (List.mem_flatMap.2 ⟨p, hp, hg⟩)) (hw p hp)⟩
theorem Sat.edgOut {w0 w : World} {B : Nat} {l m : List EP} {R : List HA} {p : EP} (h : Sat w0 B (HA.edg (l ++ p :: m) :: R) w) : Sat w0 B (edRow p :: HA.edg (l ++ m) :: R) w :=
  Sl.Sat.rules (Hs := [HA.edg (l ++ p :: m)]) (Hs' := [edRow p, HA.edg (l ++ m)]) h (by
    simp only [fps, List.flatMap_cons, List.flatMap_nil, HA.edg, HA.row, List.append_nil, List.flatMap_append]
    exact List.perm_append_comm_assoc _ _ _) (fun hh Y hY => by
    have h1 := hh (HA.edg (l ++ p :: m)) (by simp)
    simp only [List.mem_cons, List.not_mem_nil, or_false] at hY
    rcases hY with rfl | rfl
    · exact h1 p (by simp)
    · exact fun q hq => h1 q (by rcases List.mem_append.1 hq with hq | hq <;> simp [hq]))
theorem Sat.edgIn {w0 w : World} {B : Nat} {l m : List EP} {R : List HA} {p : EP} (h : Sat w0 B (edRow p :: HA.edg (l ++ m) :: R) w) : Sat w0 B (HA.edg (l ++ p :: m) :: R) w :=
  Sl.Sat.rules (Hs := [edRow p, HA.edg (l ++ m)]) (Hs' := [HA.edg (l ++ p :: m)]) h (by
    simp only [fps, List.flatMap_cons, List.flatMap_nil, HA.edg, HA.row, List.append_nil, List.flatMap_append]
    exact (List.perm_append_comm_assoc _ _ _).symm) (fun hh Y hY => by
    have h1 : (HA.edg (l ++ m)).holds w := hh (HA.edg (l ++ m)) (by simp)
    have h2 : (edRow p).holds w := hh (edRow p) (by simp)
    rw [List.mem_singleton] at hY
    subst hY
    intro q hq
    rcases List.mem_append.1 hq with hq | hq
    · exact h1 q (by simp [hq])
    · rcases List.mem_cons.1 hq with rfl | hq
      · exact h2
      · exact h1 q (by simp [hq]))
theorem Sat.edgNew {w0 w : World} {B : Nat} {l : List EP} {R : List HA} (h : Sat w0 B (HA.edg l :: R) w) : Sat w0 B (HA.edg (l ++ [((.slice none 0 0, []) : EP)]) :: R) w :=
  Sl.Sat.rules (Hs := [HA.edg l]) (Hs' := [HA.edg (l ++ [((.slice none 0 0, []) : EP)])]) h (by
    simp only [fps, List.flatMap_cons, List.flatMap_nil, HA.edg, List.append_nil, List.flatMap_append, Value.ownBlock, Option.toList]
    exact List.Perm.refl _) (fun hh Y hY => by
    have h1 : (HA.edg l).holds w := hh (HA.edg l) (by simp)
    rw [List.mem_singleton] at hY
    subst hY
    intro q hq
    rcases List.mem_append.1 hq with hq | hq
    · exact h1 q hq
    · rw [List.mem_singleton] at hq
      subst hq
      exact World.ownsRow_nil _ _ _ _)
/-- The outer row of slices. -/
abbrev OR (ad : Option Addr) (cap : Nat) (ps : List EP) : HA := HA.row (.slice ad ps.length cap) 213 1 ps.length (ps.map Prod.fst)
structure AV where
  oad : Option Addr
  ocap : Nat
  bad : Option Addr
  bcap : Nat
  ps : List EP
  qs : List EP
abbrev AVal (ga : Nat) (v : AV) (en : Nat) : HA := HA.blk ga (.cells #[.slice v.oad v.ps.length v.ocap, .slice v.bad v.qs.length v.bcap, Iv (en : Nat)] 163)
abbrev AH (ga : Nat) (v : AV) (en : Nat) : List HA := [AVal ga v en, OR v.oad v.ocap v.ps, HA.edg v.ps, OR v.bad v.bcap v.qs, HA.edg v.qs]
/-- The slices lead to the automaton's edges. -/
structure AV.Is (v : AV) (a : AM) : Prop where
  out : v.ps.map Prod.snd = a.out
  back : v.qs.map Prod.snd = a.back
abbrev AX (a : AM) : Type := { v : AV // v.Is a }
end Go.Proofs.Ytblpgpgbnlhjlaa
