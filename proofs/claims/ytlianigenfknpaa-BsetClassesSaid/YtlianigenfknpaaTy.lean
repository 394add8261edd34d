/- PRINTED BY A PROGRAM OF THIS REPO (tytab.py). The types of the seat, as a table; each function can be entered. -/
import Derived.Test.YtlianigenfknpaaSld2
import Derived.Test.YtlianigenfknpaaRows
namespace Go.Proofs.Ytlianigenfknpaa
open Go Go.RowKit Sl
set_option maxRecDepth 100000
def ty2 : TI := { u := .int .i64, size := 1, bytes := 8, zero := .int .i64 (0) }
theorem tyOk2 : TyOk Try.prog 2 ty2 := ⟨Try.underlying2, by kernel_rfl⟩
def ty3 : TI := { u := .int .i64, size := 1, bytes := 8, zero := .int .i64 (0) }
theorem tyOk3 : TyOk Try.prog 3 ty3 := ⟨Try.underlying3, by kernel_rfl⟩
def ty4 : TI := { u := .bool, size := 1, bytes := 1, zero := .bool false }
theorem tyOk4 : TyOk Try.prog 4 ty4 := ⟨Try.underlying4, by kernel_rfl⟩
def ty5 : TI := { u := .int .u8, size := 1, bytes := 1, zero := .int .u8 (0) }
theorem tyOk5 : TyOk Try.prog 5 ty5 := ⟨Try.underlying5, by kernel_rfl⟩
def ty9 : TI := { u := .string, size := 1, bytes := 16, zero := .string ⟨#[]⟩ }
theorem tyOk9 : TyOk Try.prog 9 ty9 := ⟨Try.underlying9, by kernel_rfl⟩
def ty12 : TI := { u := .int .u64, size := 1, bytes := 8, zero := .int .u64 (0) }
theorem tyOk12 : TyOk Try.prog 12 ty12 := ⟨Try.underlying12, by kernel_rfl⟩
def ty21 : TI := { u := .int .i32, size := 1, bytes := 4, zero := .int .i32 (0) }
theorem tyOk21 : TyOk Try.prog 21 ty21 := ⟨Try.underlying21, by kernel_rfl⟩
def ty22 : TI := { u := .int .u64, size := 1, bytes := 8, zero := .int .u64 (0) }
theorem tyOk22 : TyOk Try.prog 22 ty22 := ⟨Try.underlying22, by kernel_rfl⟩
def ty23 : TI := { u := .array 4 22, size := 4, bytes := 32, zero := .agg #[.int .u64 (0), .int .u64 (0), .int .u64 (0), .int .u64 (0)] }
theorem tyOk23 : TyOk Try.prog 23 ty23 := ⟨Try.underlying23, by kernel_rfl⟩
def ty24 : TI := { u := .array 4 22, size := 4, bytes := 32, zero := .agg #[.int .u64 (0), .int .u64 (0), .int .u64 (0), .int .u64 (0)] }
theorem tyOk24 : TyOk Try.prog 24 ty24 := ⟨Try.underlying24, by kernel_rfl⟩
def ty25 : TI := { u := .int .i64, size := 1, bytes := 8, zero := .int .i64 (0) }
theorem tyOk25 : TyOk Try.prog 25 ty25 := ⟨Try.underlying25, by kernel_rfl⟩
def ty35 : TI := { u := .slice 9, size := 1, bytes := 24, zero := .slice none 0 0 }
theorem tyOk35 : TyOk Try.prog 35 ty35 := ⟨Try.underlying35, by kernel_rfl⟩
def ty36 : TI := { u := .slice 3, size := 1, bytes := 24, zero := .slice none 0 0 }
theorem tyOk36 : TyOk Try.prog 36 ty36 := ⟨Try.underlying36, by kernel_rfl⟩
def ty37 : TI := { u := .slice 24, size := 1, bytes := 24, zero := .slice none 0 0 }
theorem tyOk37 : TyOk Try.prog 37 ty37 := ⟨Try.underlying37, by kernel_rfl⟩
def ty46 : TI := { u := .pointer 24, size := 1, bytes := 8, zero := .pointer none }
theorem tyOk46 : TyOk Try.prog 46 ty46 := ⟨Try.underlying46, by kernel_rfl⟩
def ty55 : TI := { u := .int .u64, size := 1, bytes := 8, zero := .int .u64 (0) }
theorem tyOk55 : TyOk Try.prog 55 ty55 := ⟨Try.underlying55, by kernel_rfl⟩
def ty56 : TI := { u := .slice 5, size := 1, bytes := 24, zero := .slice none 0 0 }
theorem tyOk56 : TyOk Try.prog 56 ty56 := ⟨Try.underlying56, by kernel_rfl⟩
def ty65 : TI := { u := .int .u32, size := 1, bytes := 4, zero := .int .u32 (0) }
theorem tyOk65 : TyOk Try.prog 65 ty65 := ⟨Try.underlying65, by kernel_rfl⟩
def ty69 : TI := { u := .pointer 5, size := 1, bytes := 8, zero := .pointer none }
theorem tyOk69 : TyOk Try.prog 69 ty69 := ⟨Try.underlying69, by kernel_rfl⟩
def ty74 : TI := { u := .unsafePointer, size := 1, bytes := 8, zero := .pointer none }
theorem tyOk74 : TyOk Try.prog 74 ty74 := ⟨Try.underlying74, by kernel_rfl⟩
def TTl : List (Nat × TI) := [(2, ty2), (3, ty3), (4, ty4), (5, ty5), (9, ty9), (12, ty12), (21, ty21), (22, ty22), (23, ty23), (24, ty24), (25, ty25), (35, ty35), (36, ty36), (37, ty37), (46, ty46), (55, ty55), (56, ty56), (65, ty65), (69, ty69), (74, ty74)]
def TB : TyTab Try.prog := tabOf TTl ⟨tyOk2, tyOk3, tyOk4, tyOk5, tyOk9, tyOk12, tyOk21, tyOk22, tyOk23, tyOk24, tyOk25, tyOk35, tyOk36, tyOk37, tyOk46, tyOk55, tyOk56, tyOk65, tyOk69, tyOk74, trivial⟩
theorem eqg23 : Try.prog.eqGuardType Try.prog.depth 23 = false := by kernel_rfl
theorem eqg24 : Try.prog.eqGuardType Try.prog.depth 24 = false := by kernel_rfl
theorem mixed : Try.prog.follows .mixedOrders = true := Try.checked.mixed
theorem ent3 : Enters Try.prog 3 := enters_of Try.func3 (by kernel_rfl) rfl
theorem ent4 : Enters Try.prog 4 := enters_of Try.func4 (by kernel_rfl) rfl
theorem ent5 : Enters Try.prog 5 := enters_of Try.func5 (by kernel_rfl) rfl
theorem ent6 : Enters Try.prog 6 := enters_of Try.func6 (by kernel_rfl) rfl
theorem ent7 : Enters Try.prog 7 := enters_of Try.func7 (by kernel_rfl) rfl
theorem ent8 : Enters Try.prog 8 := enters_of Try.func8 (by kernel_rfl) rfl
theorem ent9 : Enters Try.prog 9 := enters_of Try.func9 (by kernel_rfl) rfl
theorem ent10 : Enters Try.prog 10 := enters_of Try.func10 (by kernel_rfl) rfl
theorem ent11 : Enters Try.prog 11 := enters_of Try.func11 (by kernel_rfl) rfl
theorem ent12 : Enters Try.prog 12 := enters_of Try.func12 (by kernel_rfl) rfl
theorem ent13 : Enters Try.prog 13 := enters_of Try.func13 (by kernel_rfl) rfl
theorem ent14 : Enters Try.prog 14 := enters_of Try.func14 (by kernel_rfl) rfl
theorem ent15 : Enters Try.prog 15 := enters_of Try.func15 (by kernel_rfl) rfl
theorem ent16 : Enters Try.prog 16 := enters_of Try.func16 (by kernel_rfl) rfl
theorem ent17 : Enters Try.prog 17 := enters_of Try.func17 (by kernel_rfl) rfl
theorem ent18 : Enters Try.prog 18 := enters_of Try.func18 (by kernel_rfl) rfl
theorem ent19 : Enters Try.prog 19 := enters_of Try.func19 (by kernel_rfl) rfl
theorem ent20 : Enters Try.prog 20 := enters_of Try.func20 (by kernel_rfl) rfl
theorem ent21 : Enters Try.prog 21 := enters_of Try.func21 (by kernel_rfl) rfl
theorem ent22 : Enters Try.prog 22 := enters_of Try.func22 (by kernel_rfl) rfl
theorem ent23 : Enters Try.prog 23 := enters_of Try.func23 (by kernel_rfl) rfl
theorem ent24 : Enters Try.prog 24 := enters_of Try.func24 (by kernel_rfl) rfl
theorem ent25 : Enters Try.prog 25 := enters_of Try.func25 (by kernel_rfl) rfl
theorem ent26 : Enters Try.prog 26 := enters_of Try.func26 (by kernel_rfl) rfl
theorem ent27 : Enters Try.prog 27 := enters_of Try.func27 (by kernel_rfl) rfl
theorem ent28 : Enters Try.prog 28 := enters_of Try.func28 (by kernel_rfl) rfl
theorem ent29 : Enters Try.prog 29 := enters_of Try.func29 (by kernel_rfl) rfl
theorem ent30 : Enters Try.prog 30 := enters_of Try.func30 (by kernel_rfl) rfl
theorem ent31 : Enters Try.prog 31 := enters_of Try.func31 (by kernel_rfl) rfl
theorem ent32 : Enters Try.prog 32 := enters_of Try.func32 (by kernel_rfl) rfl
theorem ent33 : Enters Try.prog 33 := enters_of Try.func33 (by kernel_rfl) rfl
theorem ent34 : Enters Try.prog 34 := enters_of Try.func34 (by kernel_rfl) rfl
end Go.Proofs.Ytlianigenfknpaa
