/- Layer 23 (input): what a queue of lines does, in plain Lean; the search for a newline. -/
import Derived.Test.YtbclmngjhhmbdaaSlo
import Derived.Test.YtbclmngjhhmbdaaTy
import Derived.Lib.Bytealg
import Derived.Laws.Externs
namespace Go.Proofs.Ytbclmngjhhmbdaa
open Go Go.RowKit Sl
set_option maxRecDepth 100000
set_option maxHeartbeats 8000000
set_option linter.unusedVariables false
set_option linter.unusedSimpArgs false
attribute [local irreducible] ES EL PX wps

structure QS where
  ls : List (List UInt8)
  taken : Nat
  closed : Bool
def QS.bytes (s : QS) : Nat := (s.ls.map List.length).sum
def feedM (s : QS) (l : List UInt8) : Int × QS := if s.closed then (25, s) else if 10 ∈ l then (19, s) else if 1024 < l.length then (15, s) else (0, { s with ls := s.ls ++ [l] })
def closeM (s : QS) : Int × QS := if s.closed then (25, s) else (0, { s with closed := true })
def readyM (s : QS) : Bool := s.closed || decide (1 < s.ls.length)
def nextM (s : QS) : List UInt8 × Bool × QS := match s.ls with
  | [] => ([], false, s)
  | l :: r => if readyM s then (l, true, ⟨r, s.taken + 1, s.closed⟩) else ([], false, s)
def lastM (s : QS) : Bool := s.closed && s.ls.isEmpty

def idxB (l : List UInt8) (c : UInt8) : Int := Lib.indexByte l c
theorem idxB_nonneg (l : List UInt8) (c : UInt8) : 0 ≤ idxB l c ↔ c ∈ l := by
  unfold idxB
  induction l with
  | nil => simp [Lib.indexByte]
  | cons b l ih =>
    have hge := Lib.indexByte_ge l c
    by_cases h : b = c
    · subst h; simp [Lib.indexByte]
    · have h' : c ≠ b := fun e => h e.symm
      simp only [Lib.indexByte, beq_iff_eq, h, if_false, List.mem_cons, h', false_or]
      rw [← ih]
      by_cases h2 : Lib.indexByte l c = -1
      · rw [if_pos h2, h2]
      · rw [if_neg h2]; omega
theorem bytes_snoc (s : QS) (l : List UInt8) (k : Nat) (c : Bool) : QS.bytes ⟨s.ls ++ [l], k, c⟩ = s.bytes + l.length := by simp [QS.bytes]
theorem bytes_cons (l : List UInt8) (r : List (List UInt8)) (k k' : Nat) (c c' : Bool) : QS.bytes ⟨l :: r, k, c⟩ = l.length + QS.bytes ⟨r, k', c'⟩ := by simp [QS.bytes]
def HQ (g : Nat) (ad : Option Addr) (cap : Nat) (s : QS) : List HA := [HA.blk g (.cells #[.slice ad s.ls.length cap, Iv s.bytes, Iv s.taken, .bool s.closed] 60), HA.rowO (.slice ad s.ls.length cap) 9 s.ls.length (s.ls.map Sv)]
/-- Not too great for a machine. -/
structure Small (s : QS) : Prop where
  n : s.ls.length ≤ 4194304
  b : s.bytes ≤ 8589934592
  t : s.taken ≤ 4194304
theorem ext_index (l : List UInt8) (c : UInt8) (w : World) : (callFunc 36 #[Sv l, Uv c]).run Try.prog w = .ok (.value (Iv (idxB l c))) w := by
  rw [run_callFunc_extern (e := Extern.BytealgIndexByte.indexByte) Try.func36 (by kernel_rfl) (by kernel_rfl) (by kernel_rfl) (by kernel_rfl), Lib.run_indexByteString]
  simp [Result.andThen, idxB]
theorem lite_c (l : List UInt8) (c : UInt8) (w : World) : Pure Try.prog 35 #[Sv l, Uv c] (fun _ : Unit => Iv (idxB l c)) (fun _ => []) w := by
  refine calls_of_ES TB Try.func35 rfl _ Try.ntmps35 rfl (Sat.start w) ?_
  repeat (first | apply ES.seq | apply ES.skip | apply ES.region | apply EL.nil | apply ES.block | apply ES.nil | apply ES.exit | apply ES.ret | apply PX.hit | (apply PX.miss; exact rfl) | apply PX.then_x | apply PX.then_r | apply PX.block_n | apply PX.block_r | refine PX.then_n (e := .normal) ?_)
  refine EL.assign rfl rfl rfl ?_
  repeat (first | apply ES.seq | apply ES.skip | apply ES.region | apply EL.nil | apply ES.block | apply ES.nil | apply ES.exit | apply ES.ret | apply PX.hit | (apply PX.miss; exact rfl) | apply PX.then_x | apply PX.then_r | apply PX.block_n | apply PX.block_r | refine PX.then_n (e := .normal) ?_)
  refine EL.move rfl rfl rfl ?_
  refine EL.move rfl rfl rfl ?_
  refine EL.callE rfl rfl rfl rfl (ext_index l c) ?_
  refine EL.assign rfl rfl rfl ?_
  repeat (first | apply ES.seq | apply ES.skip | apply ES.region | apply EL.nil | apply ES.block | apply ES.nil | apply ES.exit | apply ES.ret | apply PX.hit | (apply PX.miss; exact rfl) | apply PX.then_x | apply PX.then_r | apply PX.block_n | apply PX.block_r | refine PX.then_n (e := .normal) ?_)
  exact PX.ret rfl Try.results35 (.cons (.tmp rfl) .nil) (fun w hs => ⟨(), rfl, hs.ent (.nil _)⟩)
theorem index_c (l : List UInt8) (c : UInt8) (w : World) : Pure Try.prog 34 #[Sv l, Uv c] (fun _ : Unit => Iv (idxB l c)) (fun _ => []) w := by
  refine calls_of_ES TB Try.func34 rfl _ Try.ntmps34 rfl (Sat.start w) ?_
  repeat (first | apply ES.seq | apply ES.skip | apply ES.region | apply EL.nil | apply ES.block | apply ES.nil | apply ES.exit | apply ES.ret | apply PX.hit | (apply PX.miss; exact rfl) | apply PX.then_x | apply PX.then_r | apply PX.block_n | apply PX.block_r | refine PX.then_n (e := .normal) ?_)
  refine EL.assign rfl rfl rfl ?_
  repeat (first | apply ES.seq | apply ES.skip | apply ES.region | apply EL.nil | apply ES.block | apply ES.nil | apply ES.exit | apply ES.ret | apply PX.hit | (apply PX.miss; exact rfl) | apply PX.then_x | apply PX.then_r | apply PX.block_n | apply PX.block_r | refine PX.then_n (e := .normal) ?_)
  refine EL.move rfl rfl rfl ?_
  refine EL.move rfl rfl rfl ?_
  refine EL.callP rfl rfl rfl ent35 rfl (lite_c _ _) ?_
  refine EL.assign rfl rfl rfl ?_
  repeat (first | apply ES.seq | apply ES.skip | apply ES.region | apply EL.nil | apply ES.block | apply ES.nil | apply ES.exit | apply ES.ret | apply PX.hit | (apply PX.miss; exact rfl) | apply PX.then_x | apply PX.then_r | apply PX.block_n | apply PX.block_r | refine PX.then_n (e := .normal) ?_)
  exact PX.ret rfl Try.results34 (.cons (.tmp rfl) .nil) (fun w hs => ⟨(), rfl, hs.ent (.nil _)⟩)
end Go.Proofs.Ytbclmngjhhmbdaa
