/- PRINTED BY A PROGRAM OF THIS REPO (tytab.py). The types of the seat, as a table; each function can be entered. -/
import Derived.Test.YtjjifcfcomhdcaaSld2
import Derived.Test.YtjjifcfcomhdcaaRows
namespace Go.Proofs.Ytjjifcfcomhdcaa
open Go Go.RowKit Sl
set_option maxRecDepth 100000
def ty2 : TI := { u := .int .i64, size := 1, bytes := 8, zero := .int .i64 (0) }
theorem tyOk2 : TyOk Try.prog 2 ty2 := ⟨Try.underlying2, by kernel_rfl⟩
def ty3 : TI := { u := .int .i64, size := 1, bytes := 8, zero := .int .i64 (0) }
theorem tyOk3 : TyOk Try.prog 3 ty3 := ⟨Try.underlying3, by kernel_rfl⟩
def ty4 : TI := { u := .bool, size := 1, bytes := 1, zero := .bool false }
theorem tyOk4 : TyOk Try.prog 4 ty4 := ⟨Try.underlying4, by kernel_rfl⟩
def ty5 : TI := { u := .int .u8, size := 1, bytes := 1, zero := .int .u8 (0) }
theorem tyOk5 : TyOk Try.prog 5 ty5 := ⟨Try.underlying5, by kernel_rfl⟩
def ty9 : TI := { u := .string, size := 1, bytes := 16, zero := .string ⟨#[]⟩ }
theorem tyOk9 : TyOk Try.prog 9 ty9 := ⟨Try.underlying9, by kernel_rfl⟩
def ty12 : TI := { u := .int .u64, size := 1, bytes := 8, zero := .int .u64 (0) }
theorem tyOk12 : TyOk Try.prog 12 ty12 := ⟨Try.underlying12, by kernel_rfl⟩
def ty21 : TI := { u := .int .i32, size := 1, bytes := 4, zero := .int .i32 (0) }
theorem tyOk21 : TyOk Try.prog 21 ty21 := ⟨Try.underlying21, by kernel_rfl⟩
def ty22 : TI := { u := .slice 9, size := 1, bytes := 24, zero := .slice none 0 0 }
theorem tyOk22 : TyOk Try.prog 22 ty22 := ⟨Try.underlying22, by kernel_rfl⟩
def ty30 : TI := { u := .int .i64, size := 1, bytes := 8, zero := .int .i64 (0) }
theorem tyOk30 : TyOk Try.prog 30 ty30 := ⟨Try.underlying30, by kernel_rfl⟩
def ty39 : TI := { u := .slice 5, size := 1, bytes := 24, zero := .slice none 0 0 }
theorem tyOk39 : TyOk Try.prog 39 ty39 := ⟨Try.underlying39, by kernel_rfl⟩
def ty40 : TI := { u := .array 256 5, size := 256, bytes := 256, zero := .agg (Array.replicate 256 (.int .u8 (0))) }
theorem tyOk40 : TyOk Try.prog 40 ty40 := ⟨Try.underlying40, by kernel_rfl⟩
def ty49 : TI := { u := .int .u64, size := 1, bytes := 8, zero := .int .u64 (0) }
theorem tyOk49 : TyOk Try.prog 49 ty49 := ⟨Try.underlying49, by kernel_rfl⟩
def ty50 : TI := { u := .pointer 52, size := 1, bytes := 8, zero := .pointer none }
theorem tyOk50 : TyOk Try.prog 50 ty50 := ⟨Try.underlying50, by kernel_rfl⟩
def ty51 : TI := { u := .struct #[{ name := "addr", type := 50, offset := 0, embedded := false, tag := "", pkgPath := "strings", byteOffset := 0 }, { name := "buf", type := 39, offset := 1, embedded := false, tag := "", pkgPath := "strings", byteOffset := 8 }], size := 2, bytes := 32, zero := .agg #[.pointer none, .slice none 0 0] }
theorem tyOk51 : TyOk Try.prog 51 ty51 := ⟨Try.underlying51, by kernel_rfl⟩
def ty52 : TI := { u := .struct #[{ name := "addr", type := 50, offset := 0, embedded := false, tag := "", pkgPath := "strings", byteOffset := 0 }, { name := "buf", type := 39, offset := 1, embedded := false, tag := "", pkgPath := "strings", byteOffset := 8 }], size := 2, bytes := 32, zero := .agg #[.pointer none, .slice none 0 0] }
theorem tyOk52 : TyOk Try.prog 52 ty52 := ⟨Try.underlying52, by kernel_rfl⟩
def ty61 : TI := { u := .array 256 4, size := 256, bytes := 256, zero := .agg (Array.replicate 256 (.bool false)) }
theorem tyOk61 : TyOk Try.prog 61 ty61 := ⟨Try.underlying61, by kernel_rfl⟩
def ty63 : TI := { u := .pointer 5, size := 1, bytes := 8, zero := .pointer none }
theorem tyOk63 : TyOk Try.prog 63 ty63 := ⟨Try.underlying63, by kernel_rfl⟩
def ty66 : TI := { u := .unsafePointer, size := 1, bytes := 8, zero := .pointer none }
theorem tyOk66 : TyOk Try.prog 66 ty66 := ⟨Try.underlying66, by kernel_rfl⟩
def ty73 : TI := { u := .int .u32, size := 1, bytes := 4, zero := .int .u32 (0) }
theorem tyOk73 : TyOk Try.prog 73 ty73 := ⟨Try.underlying73, by kernel_rfl⟩
def TTl : List (Nat × TI) := [(2, ty2), (3, ty3), (4, ty4), (5, ty5), (9, ty9), (12, ty12), (21, ty21), (22, ty22), (30, ty30), (39, ty39), (40, ty40), (49, ty49), (50, ty50), (51, ty51), (52, ty52), (61, ty61), (63, ty63), (66, ty66), (73, ty73)]
def TB : TyTab Try.prog := tabOf TTl ⟨tyOk2, tyOk3, tyOk4, tyOk5, tyOk9, tyOk12, tyOk21, tyOk22, tyOk30, tyOk39, tyOk40, tyOk49, tyOk50, tyOk51, tyOk52, tyOk61, tyOk63, tyOk66, tyOk73, trivial⟩
theorem eqg40 : Try.prog.eqGuardType Try.prog.depth 40 = false := by kernel_rfl
theorem eqg51 : Try.prog.eqGuardType Try.prog.depth 51 = false := by kernel_rfl
theorem sth51 : Try.prog.stoodInHeld 51 = false := by kernel_rfl
theorem eqg52 : Try.prog.eqGuardType Try.prog.depth 52 = false := by kernel_rfl
theorem sth52 : Try.prog.stoodInHeld 52 = false := by kernel_rfl
theorem eqg61 : Try.prog.eqGuardType Try.prog.depth 61 = false := by kernel_rfl
theorem mixed : Try.prog.follows .mixedOrders = true := Try.checked.mixed
theorem ent3 : Enters Try.prog 3 := enters_of Try.func3 (by kernel_rfl) rfl
theorem ent4 : Enters Try.prog 4 := enters_of Try.func4 (by kernel_rfl) rfl
theorem ent5 : Enters Try.prog 5 := enters_of Try.func5 (by kernel_rfl) rfl
theorem ent6 : Enters Try.prog 6 := enters_of Try.func6 (by kernel_rfl) rfl
theorem ent7 : Enters Try.prog 7 := enters_of Try.func7 (by kernel_rfl) rfl
theorem ent8 : Enters Try.prog 8 := enters_of Try.func8 (by kernel_rfl) rfl
theorem ent9 : Enters Try.prog 9 := enters_of Try.func9 (by kernel_rfl) rfl
theorem ent10 : Enters Try.prog 10 := enters_of Try.func10 (by kernel_rfl) rfl
theorem ent11 : Enters Try.prog 11 := enters_of Try.func11 (by kernel_rfl) rfl
theorem ent12 : Enters Try.prog 12 := enters_of Try.func12 (by kernel_rfl) rfl
theorem ent13 : Enters Try.prog 13 := enters_of Try.func13 (by kernel_rfl) rfl
theorem ent14 : Enters Try.prog 14 := enters_of Try.func14 (by kernel_rfl) rfl
theorem ent15 : Enters Try.prog 15 := enters_of Try.func15 (by kernel_rfl) rfl
theorem ent16 : Enters Try.prog 16 := enters_of Try.func16 (by kernel_rfl) rfl
theorem ent17 : Enters Try.prog 17 := enters_of Try.func17 (by kernel_rfl) rfl
theorem ent18 : Enters Try.prog 18 := enters_of Try.func18 (by kernel_rfl) rfl
theorem ent19 : Enters Try.prog 19 := enters_of Try.func19 (by kernel_rfl) rfl
theorem ent20 : Enters Try.prog 20 := enters_of Try.func20 (by kernel_rfl) rfl
theorem ent21 : Enters Try.prog 21 := enters_of Try.func21 (by kernel_rfl) rfl
theorem ent22 : Enters Try.prog 22 := enters_of Try.func22 (by kernel_rfl) rfl
theorem ent23 : Enters Try.prog 23 := enters_of Try.func23 (by kernel_rfl) rfl
theorem ent24 : Enters Try.prog 24 := enters_of Try.func24 (by kernel_rfl) rfl
theorem ent25 : Enters Try.prog 25 := enters_of Try.func25 (by kernel_rfl) rfl
theorem ent26 : Enters Try.prog 26 := enters_of Try.func26 (by kernel_rfl) rfl
theorem ent27 : Enters Try.prog 27 := enters_of Try.func27 (by kernel_rfl) rfl
theorem ent28 : Enters Try.prog 28 := enters_of Try.func28 (by kernel_rfl) rfl
theorem ent29 : Enters Try.prog 29 := enters_of Try.func29 (by kernel_rfl) rfl
theorem ent30 : Enters Try.prog 30 := enters_of Try.func30 (by kernel_rfl) rfl
theorem ent31 : Enters Try.prog 31 := enters_of Try.func31 (by kernel_rfl) rfl
theorem ent32 : Enters Try.prog 32 := enters_of Try.func32 (by kernel_rfl) rfl
theorem ent33 : Enters Try.prog 33 := enters_of Try.func33 (by kernel_rfl) rfl
theorem ent34 : Enters Try.prog 34 := enters_of Try.func34 (by kernel_rfl) rfl
theorem ent35 : Enters Try.prog 35 := enters_of Try.func35 (by kernel_rfl) rfl
theorem ent37 : Enters Try.prog 37 := enters_of Try.func37 (by kernel_rfl) rfl
end Go.Proofs.Ytjjifcfcomhdcaa
