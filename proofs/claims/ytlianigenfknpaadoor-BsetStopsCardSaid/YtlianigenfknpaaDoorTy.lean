/- PRINTED BY A PROGRAM OF THIS REPO (tytab.py). The types of the seat, as a table; each function can be entered. -/
import Derived.Test.YtlianigenfknpaaDoorSld2
import Derived.Test.YtlianigenfknpaaDoorRows
namespace Go.Proofs.YtlianigenfknpaaDoor
open Go Go.RowKit Sl
set_option maxRecDepth 100000
def ty2 : TI := { u := .int .i64, size := 1, bytes := 8, zero := .int .i64 (0) }
theorem tyOk2 : TyOk Tryd.prog 2 ty2 := ⟨Tryd.underlying2, by kernel_rfl⟩
def ty3 : TI := { u := .int .i64, size := 1, bytes := 8, zero := .int .i64 (0) }
theorem tyOk3 : TyOk Tryd.prog 3 ty3 := ⟨Tryd.underlying3, by kernel_rfl⟩
def ty4 : TI := { u := .bool, size := 1, bytes := 1, zero := .bool false }
theorem tyOk4 : TyOk Tryd.prog 4 ty4 := ⟨Tryd.underlying4, by kernel_rfl⟩
def ty5 : TI := { u := .int .u8, size := 1, bytes := 1, zero := .int .u8 (0) }
theorem tyOk5 : TyOk Tryd.prog 5 ty5 := ⟨Tryd.underlying5, by kernel_rfl⟩
def ty9 : TI := { u := .string, size := 1, bytes := 16, zero := .string ⟨#[]⟩ }
theorem tyOk9 : TyOk Tryd.prog 9 ty9 := ⟨Tryd.underlying9, by kernel_rfl⟩
def ty12 : TI := { u := .int .u64, size := 1, bytes := 8, zero := .int .u64 (0) }
theorem tyOk12 : TyOk Tryd.prog 12 ty12 := ⟨Tryd.underlying12, by kernel_rfl⟩
def ty21 : TI := { u := .int .i32, size := 1, bytes := 4, zero := .int .i32 (0) }
theorem tyOk21 : TyOk Tryd.prog 21 ty21 := ⟨Tryd.underlying21, by kernel_rfl⟩
def ty22 : TI := { u := .int .u64, size := 1, bytes := 8, zero := .int .u64 (0) }
theorem tyOk22 : TyOk Tryd.prog 22 ty22 := ⟨Tryd.underlying22, by kernel_rfl⟩
def ty23 : TI := { u := .array 4 22, size := 4, bytes := 32, zero := .agg #[.int .u64 (0), .int .u64 (0), .int .u64 (0), .int .u64 (0)] }
theorem tyOk23 : TyOk Tryd.prog 23 ty23 := ⟨Tryd.underlying23, by kernel_rfl⟩
def ty24 : TI := { u := .array 4 22, size := 4, bytes := 32, zero := .agg #[.int .u64 (0), .int .u64 (0), .int .u64 (0), .int .u64 (0)] }
theorem tyOk24 : TyOk Tryd.prog 24 ty24 := ⟨Tryd.underlying24, by kernel_rfl⟩
def ty31 : TI := { u := .slice 5, size := 1, bytes := 24, zero := .slice none 0 0 }
theorem tyOk31 : TyOk Tryd.prog 31 ty31 := ⟨Tryd.underlying31, by kernel_rfl⟩
def ty34 : TI := { u := .int .i64, size := 1, bytes := 8, zero := .int .i64 (0) }
theorem tyOk34 : TyOk Tryd.prog 34 ty34 := ⟨Tryd.underlying34, by kernel_rfl⟩
def ty46 : TI := { u := .int .u64, size := 1, bytes := 8, zero := .int .u64 (0) }
theorem tyOk46 : TyOk Tryd.prog 46 ty46 := ⟨Tryd.underlying46, by kernel_rfl⟩
def ty49 : TI := { u := .pointer 24, size := 1, bytes := 8, zero := .pointer none }
theorem tyOk49 : TyOk Tryd.prog 49 ty49 := ⟨Tryd.underlying49, by kernel_rfl⟩
def ty50 : TI := { u := .pointer 52, size := 1, bytes := 8, zero := .pointer none }
theorem tyOk50 : TyOk Tryd.prog 50 ty50 := ⟨Tryd.underlying50, by kernel_rfl⟩
def ty51 : TI := { u := .struct #[{ name := "text", type := 9, offset := 0, embedded := false, tag := "", pkgPath := "runnel/bracket", byteOffset := 0 }, { name := "at", type := 3, offset := 1, embedded := false, tag := "", pkgPath := "runnel/bracket", byteOffset := 16 }, { name := "e", type := 34, offset := 2, embedded := false, tag := "", pkgPath := "runnel/bracket", byteOffset := 24 }], size := 3, bytes := 32, zero := .agg #[.string ⟨#[]⟩, .int .i64 (0), .int .i64 (0)] }
theorem tyOk51 : TyOk Tryd.prog 51 ty51 := ⟨Tryd.underlying51, by kernel_rfl⟩
def ty52 : TI := { u := .struct #[{ name := "text", type := 9, offset := 0, embedded := false, tag := "", pkgPath := "runnel/bracket", byteOffset := 0 }, { name := "at", type := 3, offset := 1, embedded := false, tag := "", pkgPath := "runnel/bracket", byteOffset := 16 }, { name := "e", type := 34, offset := 2, embedded := false, tag := "", pkgPath := "runnel/bracket", byteOffset := 24 }], size := 3, bytes := 32, zero := .agg #[.string ⟨#[]⟩, .int .i64 (0), .int .i64 (0)] }
theorem tyOk52 : TyOk Tryd.prog 52 ty52 := ⟨Tryd.underlying52, by kernel_rfl⟩
def ty63 : TI := { u := .array 64 5, size := 64, bytes := 64, zero := .agg (Array.replicate 64 (.int .u8 (0))) }
theorem tyOk63 : TyOk Tryd.prog 63 ty63 := ⟨Tryd.underlying63, by kernel_rfl⟩
def ty68 : TI := { u := .int .u32, size := 1, bytes := 4, zero := .int .u32 (0) }
theorem tyOk68 : TyOk Tryd.prog 68 ty68 := ⟨Tryd.underlying68, by kernel_rfl⟩
def ty81 : TI := { u := .pointer 5, size := 1, bytes := 8, zero := .pointer none }
theorem tyOk81 : TyOk Tryd.prog 81 ty81 := ⟨Tryd.underlying81, by kernel_rfl⟩
def ty86 : TI := { u := .unsafePointer, size := 1, bytes := 8, zero := .pointer none }
theorem tyOk86 : TyOk Tryd.prog 86 ty86 := ⟨Tryd.underlying86, by kernel_rfl⟩
def TTl : List (Nat × TI) := [(2, ty2), (3, ty3), (4, ty4), (5, ty5), (9, ty9), (12, ty12), (21, ty21), (22, ty22), (23, ty23), (24, ty24), (31, ty31), (34, ty34), (46, ty46), (49, ty49), (50, ty50), (51, ty51), (52, ty52), (63, ty63), (68, ty68), (81, ty81), (86, ty86)]
def TB : TyTab Tryd.prog := tabOf TTl ⟨tyOk2, tyOk3, tyOk4, tyOk5, tyOk9, tyOk12, tyOk21, tyOk22, tyOk23, tyOk24, tyOk31, tyOk34, tyOk46, tyOk49, tyOk50, tyOk51, tyOk52, tyOk63, tyOk68, tyOk81, tyOk86, trivial⟩
theorem eqg23 : Tryd.prog.eqGuardType Tryd.prog.depth 23 = false := by kernel_rfl
theorem eqg24 : Tryd.prog.eqGuardType Tryd.prog.depth 24 = false := by kernel_rfl
theorem eqg51 : Tryd.prog.eqGuardType Tryd.prog.depth 51 = false := by kernel_rfl
theorem sth51 : Tryd.prog.stoodInHeld 51 = false := by kernel_rfl
theorem eqg52 : Tryd.prog.eqGuardType Tryd.prog.depth 52 = false := by kernel_rfl
theorem sth52 : Tryd.prog.stoodInHeld 52 = false := by kernel_rfl
theorem eqg63 : Tryd.prog.eqGuardType Tryd.prog.depth 63 = false := by kernel_rfl
theorem mixed : Tryd.prog.follows .mixedOrders = true := Tryd.checked.mixed
theorem ent3 : Enters Tryd.prog 3 := enters_of Tryd.func3 (by kernel_rfl) rfl
theorem ent4 : Enters Tryd.prog 4 := enters_of Tryd.func4 (by kernel_rfl) rfl
theorem ent5 : Enters Tryd.prog 5 := enters_of Tryd.func5 (by kernel_rfl) rfl
theorem ent6 : Enters Tryd.prog 6 := enters_of Tryd.func6 (by kernel_rfl) rfl
theorem ent7 : Enters Tryd.prog 7 := enters_of Tryd.func7 (by kernel_rfl) rfl
theorem ent8 : Enters Tryd.prog 8 := enters_of Tryd.func8 (by kernel_rfl) rfl
theorem ent9 : Enters Tryd.prog 9 := enters_of Tryd.func9 (by kernel_rfl) rfl
theorem ent10 : Enters Tryd.prog 10 := enters_of Tryd.func10 (by kernel_rfl) rfl
theorem ent11 : Enters Tryd.prog 11 := enters_of Tryd.func11 (by kernel_rfl) rfl
theorem ent12 : Enters Tryd.prog 12 := enters_of Tryd.func12 (by kernel_rfl) rfl
theorem ent13 : Enters Tryd.prog 13 := enters_of Tryd.func13 (by kernel_rfl) rfl
theorem ent14 : Enters Tryd.prog 14 := enters_of Tryd.func14 (by kernel_rfl) rfl
theorem ent15 : Enters Tryd.prog 15 := enters_of Tryd.func15 (by kernel_rfl) rfl
theorem ent16 : Enters Tryd.prog 16 := enters_of Tryd.func16 (by kernel_rfl) rfl
theorem ent17 : Enters Tryd.prog 17 := enters_of Tryd.func17 (by kernel_rfl) rfl
theorem ent18 : Enters Tryd.prog 18 := enters_of Tryd.func18 (by kernel_rfl) rfl
theorem ent19 : Enters Tryd.prog 19 := enters_of Tryd.func19 (by kernel_rfl) rfl
theorem ent20 : Enters Tryd.prog 20 := enters_of Tryd.func20 (by kernel_rfl) rfl
theorem ent21 : Enters Tryd.prog 21 := enters_of Tryd.func21 (by kernel_rfl) rfl
theorem ent22 : Enters Tryd.prog 22 := enters_of Tryd.func22 (by kernel_rfl) rfl
theorem ent23 : Enters Tryd.prog 23 := enters_of Tryd.func23 (by kernel_rfl) rfl
theorem ent24 : Enters Tryd.prog 24 := enters_of Tryd.func24 (by kernel_rfl) rfl
theorem ent25 : Enters Tryd.prog 25 := enters_of Tryd.func25 (by kernel_rfl) rfl
theorem ent26 : Enters Tryd.prog 26 := enters_of Tryd.func26 (by kernel_rfl) rfl
theorem ent27 : Enters Tryd.prog 27 := enters_of Tryd.func27 (by kernel_rfl) rfl
theorem ent28 : Enters Tryd.prog 28 := enters_of Tryd.func28 (by kernel_rfl) rfl
theorem ent29 : Enters Tryd.prog 29 := enters_of Tryd.func29 (by kernel_rfl) rfl
theorem ent30 : Enters Tryd.prog 30 := enters_of Tryd.func30 (by kernel_rfl) rfl
theorem ent31 : Enters Tryd.prog 31 := enters_of Tryd.func31 (by kernel_rfl) rfl
theorem ent32 : Enters Tryd.prog 32 := enters_of Tryd.func32 (by kernel_rfl) rfl
theorem ent33 : Enters Tryd.prog 33 := enters_of Tryd.func33 (by kernel_rfl) rfl
theorem ent34 : Enters Tryd.prog 34 := enters_of Tryd.func34 (by kernel_rfl) rfl
theorem ent35 : Enters Tryd.prog 35 := enters_of Tryd.func35 (by kernel_rfl) rfl
theorem ent36 : Enters Tryd.prog 36 := enters_of Tryd.func36 (by kernel_rfl) rfl
theorem ent37 : Enters Tryd.prog 37 := enters_of Tryd.func37 (by kernel_rfl) rfl
theorem ent39 : Enters Tryd.prog 39 := enters_of Tryd.func39 (by kernel_rfl) rfl
theorem ent41 : Enters Tryd.prog 41 := enters_of Tryd.func41 (by kernel_rfl) rfl
theorem ent42 : Enters Tryd.prog 42 := enters_of Tryd.func42 (by kernel_rfl) rfl
theorem ent43 : Enters Tryd.prog 43 := enters_of Tryd.func43 (by kernel_rfl) rfl
theorem ent63 : Enters Tryd.prog 63 := enters_of Tryd.func63 (by kernel_rfl) rfl
end Go.Proofs.YtlianigenfknpaaDoor
