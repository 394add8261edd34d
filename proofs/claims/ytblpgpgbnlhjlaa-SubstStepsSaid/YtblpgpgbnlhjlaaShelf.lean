/-
  DERIVED: THE SHELF's CONTRACTS AT THIS DUMP, IN PLAIN WORDS (tools/lay-plain.mjs out of 'YtblpgpgbnlhjlaaShelf.lean', which tools/lay-shelf.mjs wrote): THE SAME DECLARATIONS UNDER THE SAME NAMES: 'import', 'namespace', 'open', 'def', 'theorem' AND NOTHING ELSE: no command of the shelf's: FOR A HAND-IN. Each laying: the table of numbers ('.._ren') and one theorem, a field a fact of the dump's own or the kernel's comparison; each contract: ONE APPLICATION.
-/
import Derived.Shelf.Strings.Search3
import Derived.Shelf.LaysM
import Derived.Test.YtblpgpgbnlhjlaaProg
namespace Go.Proofs
open Go.Shelf
def Try.lays143_ren : Go.Shelf.Ren := ⟨fun | 143 => 122 | 219 => 125 | 217 => 121 | 225 => 126 | 224 => 127 | 267 => 128 | 266 => 124 | 314 => 129 | n => n, fun | 9 => 9 | 3 => 3 | 4 => 4 | 5 => 5 | 46 => 247 | 146 => 249 | 51 => 248 | n => n, fun | 1 => 0 | n => n⟩
theorem Try.lays143 : Go.Proofs.LaysM.n143 Try.prog Try.lays143_ren := {
  mixed := by kernel_rfl
  f143 := Try.func122.trans (congrArg some (by kernel_rfl))
  f217 := Try.func121.trans (congrArg some (by kernel_rfl))
  f219 := Try.func125.trans (congrArg some (by kernel_rfl))
  f224 := Try.func127.trans (congrArg some (by kernel_rfl))
  f225 := Try.func126.trans (congrArg some (by kernel_rfl))
  f266 := Try.func124.trans (congrArg some (by kernel_rfl))
  f267 := Try.func128.trans (congrArg some (by kernel_rfl))
  f314 := Try.func129.trans (congrArg some (by kernel_rfl))
  t3 := Try.underlying3
  a3 := Try.isAgg3
  z3 := Try.sizeOf3
  v3 := Try.zeroValue3
  t4 := Try.underlying4
  a4 := Try.isAgg4
  z4 := Try.sizeOf4
  v4 := Try.zeroValue4
  t5 := Try.underlying5
  a5 := Try.isAgg5
  z5 := Try.sizeOf5
  v5 := Try.zeroValue5
  t9 := Try.underlying9
  a9 := Try.isAgg9
  z9 := Try.sizeOf9
  v9 := Try.zeroValue9
  t46 := Try.underlying247
  a46 := Try.isAgg247
  z46 := Try.sizeOf247
  v46 := Try.zeroValue247
  t51 := Try.underlying248
  a51 := Try.isAgg248
  z51 := Try.sizeOf248
  v51 := Try.zeroValue248
  t146 := Try.underlying249
  a146 := Try.isAgg249
  z146 := Try.sizeOf249
  v146 := Try.zeroValue249
  g1 := by kernel_rfl
  i3 := by kernel_rfl
  i4 := by kernel_rfl
  i5 := by kernel_rfl
  i9 := by kernel_rfl
  i46 := by kernel_rfl
  i51 := by kernel_rfl
  i146 := by kernel_rfl
  m1 := by kernel_rfl
  s1_3 := fun w h => Go.Proofs.cell_of_shapedOpen_int (zero := #[.int .i64 0]) (t := 3) h (of_decide_eq_true (by kernel_rfl)) (by kernel_rfl) rfl (by kernel_rfl) (by kernel_rfl) Try.underlying3 }
end Go.Proofs
