/- PRINTED BY A PROGRAM OF THIS REPO (tytab.py). The types of the seat, as a table; each function can be entered. -/
import Derived.Test.YtgoopgnnkhpmlaaDoorSld2
import Derived.Test.YtgoopgnnkhpmlaaDoorRows
namespace Go.Proofs.YtgoopgnnkhpmlaaDoor
open Go Go.RowKit Sl
set_option maxRecDepth 100000
def ty1 : TI := { u := .func #[] #[] false, size := 1, bytes := 8, zero := .nilFunc }
theorem tyOk1 : TyOk Tryd.prog 1 ty1 := ⟨Tryd.underlying1, by kernel_rfl⟩
def ty2 : TI := { u := .int .i64, size := 1, bytes := 8, zero := .int .i64 (0) }
theorem tyOk2 : TyOk Tryd.prog 2 ty2 := ⟨Tryd.underlying2, by kernel_rfl⟩
def ty3 : TI := { u := .int .i64, size := 1, bytes := 8, zero := .int .i64 (0) }
theorem tyOk3 : TyOk Tryd.prog 3 ty3 := ⟨Tryd.underlying3, by kernel_rfl⟩
def ty4 : TI := { u := .bool, size := 1, bytes := 1, zero := .bool false }
theorem tyOk4 : TyOk Tryd.prog 4 ty4 := ⟨Tryd.underlying4, by kernel_rfl⟩
def ty5 : TI := { u := .int .u8, size := 1, bytes := 1, zero := .int .u8 (0) }
theorem tyOk5 : TyOk Tryd.prog 5 ty5 := ⟨Tryd.underlying5, by kernel_rfl⟩
def ty9 : TI := { u := .string, size := 1, bytes := 16, zero := .string ⟨#[]⟩ }
theorem tyOk9 : TyOk Tryd.prog 9 ty9 := ⟨Tryd.underlying9, by kernel_rfl⟩
def ty12 : TI := { u := .int .u64, size := 1, bytes := 8, zero := .int .u64 (0) }
theorem tyOk12 : TyOk Tryd.prog 12 ty12 := ⟨Tryd.underlying12, by kernel_rfl⟩
def ty21 : TI := { u := .int .i32, size := 1, bytes := 4, zero := .int .i32 (0) }
theorem tyOk21 : TyOk Tryd.prog 21 ty21 := ⟨Tryd.underlying21, by kernel_rfl⟩
def ty22 : TI := { u := .int .u64, size := 1, bytes := 8, zero := .int .u64 (0) }
theorem tyOk22 : TyOk Tryd.prog 22 ty22 := ⟨Tryd.underlying22, by kernel_rfl⟩
def ty23 : TI := { u := .array 4 22, size := 4, bytes := 32, zero := .agg #[.int .u64 (0), .int .u64 (0), .int .u64 (0), .int .u64 (0)] }
theorem tyOk23 : TyOk Tryd.prog 23 ty23 := ⟨Tryd.underlying23, by kernel_rfl⟩
def ty24 : TI := { u := .array 4 22, size := 4, bytes := 32, zero := .agg #[.int .u64 (0), .int .u64 (0), .int .u64 (0), .int .u64 (0)] }
theorem tyOk24 : TyOk Tryd.prog 24 ty24 := ⟨Tryd.underlying24, by kernel_rfl⟩
def ty25 : TI := { u := .int .i64, size := 1, bytes := 8, zero := .int .i64 (0) }
theorem tyOk25 : TyOk Tryd.prog 25 ty25 := ⟨Tryd.underlying25, by kernel_rfl⟩
def ty27 : TI := { u := .func #[9, 3] #[24, 3, 25] false, size := 1, bytes := 8, zero := .nilFunc }
theorem tyOk27 : TyOk Tryd.prog 27 ty27 := ⟨Tryd.underlying27, by kernel_rfl⟩
def ty28 : TI := { u := .func #[9] #[24] false, size := 1, bytes := 8, zero := .nilFunc }
theorem tyOk28 : TyOk Tryd.prog 28 ty28 := ⟨Tryd.underlying28, by kernel_rfl⟩
def ty29 : TI := { u := .func #[24] #[9] false, size := 1, bytes := 8, zero := .nilFunc }
theorem tyOk29 : TyOk Tryd.prog 29 ty29 := ⟨Tryd.underlying29, by kernel_rfl⟩
def ty30 : TI := { u := .func #[24] #[24] false, size := 1, bytes := 8, zero := .nilFunc }
theorem tyOk30 : TyOk Tryd.prog 30 ty30 := ⟨Tryd.underlying30, by kernel_rfl⟩
def ty31 : TI := { u := .func #[24] #[4] false, size := 1, bytes := 8, zero := .nilFunc }
theorem tyOk31 : TyOk Tryd.prog 31 ty31 := ⟨Tryd.underlying31, by kernel_rfl⟩
def ty32 : TI := { u := .pointer 34, size := 1, bytes := 8, zero := .pointer none }
theorem tyOk32 : TyOk Tryd.prog 32 ty32 := ⟨Tryd.underlying32, by kernel_rfl⟩
def ty33 : TI := { u := .struct #[{ name := "text", type := 9, offset := 0, embedded := false, tag := "", pkgPath := "runnel/bracket", byteOffset := 0 }, { name := "at", type := 3, offset := 1, embedded := false, tag := "", pkgPath := "runnel/bracket", byteOffset := 16 }, { name := "e", type := 25, offset := 2, embedded := false, tag := "", pkgPath := "runnel/bracket", byteOffset := 24 }], size := 3, bytes := 32, zero := .agg #[.string ⟨#[]⟩, .int .i64 (0), .int .i64 (0)] }
theorem tyOk33 : TyOk Tryd.prog 33 ty33 := ⟨Tryd.underlying33, by kernel_rfl⟩
def ty34 : TI := { u := .struct #[{ name := "text", type := 9, offset := 0, embedded := false, tag := "", pkgPath := "runnel/bracket", byteOffset := 0 }, { name := "at", type := 3, offset := 1, embedded := false, tag := "", pkgPath := "runnel/bracket", byteOffset := 16 }, { name := "e", type := 25, offset := 2, embedded := false, tag := "", pkgPath := "runnel/bracket", byteOffset := 24 }], size := 3, bytes := 32, zero := .agg #[.string ⟨#[]⟩, .int .i64 (0), .int .i64 (0)] }
theorem tyOk34 : TyOk Tryd.prog 34 ty34 := ⟨Tryd.underlying34, by kernel_rfl⟩
def ty35 : TI := { u := .func #[24, 24] #[24] false, size := 1, bytes := 8, zero := .nilFunc }
theorem tyOk35 : TyOk Tryd.prog 35 ty35 := ⟨Tryd.underlying35, by kernel_rfl⟩
def ty36 : TI := { u := .func #[] #[24] false, size := 1, bytes := 8, zero := .nilFunc }
theorem tyOk36 : TyOk Tryd.prog 36 ty36 := ⟨Tryd.underlying36, by kernel_rfl⟩
def ty37 : TI := { u := .func #[38, 5] #[] false, size := 1, bytes := 8, zero := .nilFunc }
theorem tyOk37 : TyOk Tryd.prog 37 ty37 := ⟨Tryd.underlying37, by kernel_rfl⟩
def ty38 : TI := { u := .pointer 24, size := 1, bytes := 8, zero := .pointer none }
theorem tyOk38 : TyOk Tryd.prog 38 ty38 := ⟨Tryd.underlying38, by kernel_rfl⟩
def ty39 : TI := { u := .slice 5, size := 1, bytes := 24, zero := .slice none 0 0 }
theorem tyOk39 : TyOk Tryd.prog 39 ty39 := ⟨Tryd.underlying39, by kernel_rfl⟩
def ty40 : TI := { u := .func #[43] #[] false, size := 1, bytes := 8, zero := .nilFunc }
theorem tyOk40 : TyOk Tryd.prog 40 ty40 := ⟨Tryd.underlying40, by kernel_rfl⟩
def ty41 : TI := { u := .func #[43] #[] false, size := 1, bytes := 8, zero := .nilFunc }
theorem tyOk41 : TyOk Tryd.prog 41 ty41 := ⟨Tryd.underlying41, by kernel_rfl⟩
def ty42 : TI := { u := .func #[24] #[41] false, size := 1, bytes := 8, zero := .nilFunc }
theorem tyOk42 : TyOk Tryd.prog 42 ty42 := ⟨Tryd.underlying42, by kernel_rfl⟩
def ty43 : TI := { u := .func #[5] #[4] false, size := 1, bytes := 8, zero := .nilFunc }
theorem tyOk43 : TyOk Tryd.prog 43 ty43 := ⟨Tryd.underlying43, by kernel_rfl⟩
def ty44 : TI := { u := .func #[24, 24, 45] #[24] false, size := 1, bytes := 8, zero := .nilFunc }
theorem tyOk44 : TyOk Tryd.prog 44 ty44 := ⟨Tryd.underlying44, by kernel_rfl⟩
def ty45 : TI := { u := .func #[22, 22] #[22] false, size := 1, bytes := 8, zero := .nilFunc }
theorem tyOk45 : TyOk Tryd.prog 45 ty45 := ⟨Tryd.underlying45, by kernel_rfl⟩
def ty47 : TI := { u := .func #[] #[24, 5, 4] false, size := 1, bytes := 8, zero := .nilFunc }
theorem tyOk47 : TyOk Tryd.prog 47 ty47 := ⟨Tryd.underlying47, by kernel_rfl⟩
def ty48 : TI := { u := .func #[] #[4] false, size := 1, bytes := 8, zero := .nilFunc }
theorem tyOk48 : TyOk Tryd.prog 48 ty48 := ⟨Tryd.underlying48, by kernel_rfl⟩
def ty50 : TI := { u := .func #[5, 5] #[24, 25] false, size := 1, bytes := 8, zero := .nilFunc }
theorem tyOk50 : TyOk Tryd.prog 50 ty50 := ⟨Tryd.underlying50, by kernel_rfl⟩
def ty51 : TI := { u := .func #[22] #[3] false, size := 1, bytes := 8, zero := .nilFunc }
theorem tyOk51 : TyOk Tryd.prog 51 ty51 := ⟨Tryd.underlying51, by kernel_rfl⟩
def ty52 : TI := { u := .func #[9, 5] #[3] false, size := 1, bytes := 8, zero := .nilFunc }
theorem tyOk52 : TyOk Tryd.prog 52 ty52 := ⟨Tryd.underlying52, by kernel_rfl⟩
def ty54 : TI := { u := .func #[] #[9, 5] false, size := 1, bytes := 8, zero := .nilFunc }
theorem tyOk54 : TyOk Tryd.prog 54 ty54 := ⟨Tryd.underlying54, by kernel_rfl⟩
def ty55 : TI := { u := .func #[9] #[24, 25] false, size := 1, bytes := 8, zero := .nilFunc }
theorem tyOk55 : TyOk Tryd.prog 55 ty55 := ⟨Tryd.underlying55, by kernel_rfl⟩
def ty56 : TI := { u := .array 64 5, size := 64, bytes := 64, zero := .agg (Array.replicate 64 (.int .u8 (0))) }
theorem tyOk56 : TyOk Tryd.prog 56 ty56 := ⟨Tryd.underlying56, by kernel_rfl⟩
def ty57 : TI := { u := .int .u64, size := 1, bytes := 8, zero := .int .u64 (0) }
theorem tyOk57 : TyOk Tryd.prog 57 ty57 := ⟨Tryd.underlying57, by kernel_rfl⟩
def ty58 : TI := { u := .func #[9, 9] #[3] false, size := 1, bytes := 8, zero := .nilFunc }
theorem tyOk58 : TyOk Tryd.prog 58 ty58 := ⟨Tryd.underlying58, by kernel_rfl⟩
def ty60 : TI := { u := .func #[9, 5] #[4, 4] false, size := 1, bytes := 8, zero := .nilFunc }
theorem tyOk60 : TyOk Tryd.prog 60 ty60 := ⟨Tryd.underlying60, by kernel_rfl⟩
def ty61 : TI := { u := .func #[3] #[3] false, size := 1, bytes := 8, zero := .nilFunc }
theorem tyOk61 : TyOk Tryd.prog 61 ty61 := ⟨Tryd.underlying61, by kernel_rfl⟩
def ty62 : TI := { u := .int .u32, size := 1, bytes := 4, zero := .int .u32 (0) }
theorem tyOk62 : TyOk Tryd.prog 62 ty62 := ⟨Tryd.underlying62, by kernel_rfl⟩
def ty64 : TI := { u := .func #[9] #[62, 62] false, size := 1, bytes := 8, zero := .nilFunc }
theorem tyOk64 : TyOk Tryd.prog 64 ty64 := ⟨Tryd.underlying64, by kernel_rfl⟩
def ty65 : TI := { u := .func #[] #[9] false, size := 1, bytes := 8, zero := .nilFunc }
theorem tyOk65 : TyOk Tryd.prog 65 ty65 := ⟨Tryd.underlying65, by kernel_rfl⟩
def ty71 : TI := { u := .func #[] #[3] false, size := 1, bytes := 8, zero := .nilFunc }
theorem tyOk71 : TyOk Tryd.prog 71 ty71 := ⟨Tryd.underlying71, by kernel_rfl⟩
def ty74 : TI := { u := .func #[80, 80] #[4] false, size := 1, bytes := 8, zero := .nilFunc }
theorem tyOk74 : TyOk Tryd.prog 74 ty74 := ⟨Tryd.underlying74, by kernel_rfl⟩
def ty75 : TI := { u := .pointer 5, size := 1, bytes := 8, zero := .pointer none }
theorem tyOk75 : TyOk Tryd.prog 75 ty75 := ⟨Tryd.underlying75, by kernel_rfl⟩
def ty80 : TI := { u := .unsafePointer, size := 1, bytes := 8, zero := .pointer none }
theorem tyOk80 : TyOk Tryd.prog 80 ty80 := ⟨Tryd.underlying80, by kernel_rfl⟩
def TTl : List (Nat × TI) := [(1, ty1), (2, ty2), (3, ty3), (4, ty4), (5, ty5), (9, ty9), (12, ty12), (21, ty21), (22, ty22), (23, ty23), (24, ty24), (25, ty25), (27, ty27), (28, ty28), (29, ty29), (30, ty30), (31, ty31), (32, ty32), (33, ty33), (34, ty34), (35, ty35), (36, ty36), (37, ty37), (38, ty38), (39, ty39), (40, ty40), (41, ty41), (42, ty42), (43, ty43), (44, ty44), (45, ty45), (47, ty47), (48, ty48), (50, ty50), (51, ty51), (52, ty52), (54, ty54), (55, ty55), (56, ty56), (57, ty57), (58, ty58), (60, ty60), (61, ty61), (62, ty62), (64, ty64), (65, ty65), (71, ty71), (74, ty74), (75, ty75), (80, ty80)]
def TB : TyTab Tryd.prog := tabOf TTl ⟨tyOk1, tyOk2, tyOk3, tyOk4, tyOk5, tyOk9, tyOk12, tyOk21, tyOk22, tyOk23, tyOk24, tyOk25, tyOk27, tyOk28, tyOk29, tyOk30, tyOk31, tyOk32, tyOk33, tyOk34, tyOk35, tyOk36, tyOk37, tyOk38, tyOk39, tyOk40, tyOk41, tyOk42, tyOk43, tyOk44, tyOk45, tyOk47, tyOk48, tyOk50, tyOk51, tyOk52, tyOk54, tyOk55, tyOk56, tyOk57, tyOk58, tyOk60, tyOk61, tyOk62, tyOk64, tyOk65, tyOk71, tyOk74, tyOk75, tyOk80, trivial⟩
theorem eqg23 : Tryd.prog.eqGuardType Tryd.prog.depth 23 = false := by kernel_rfl
theorem eqg24 : Tryd.prog.eqGuardType Tryd.prog.depth 24 = false := by kernel_rfl
theorem eqg33 : Tryd.prog.eqGuardType Tryd.prog.depth 33 = false := by kernel_rfl
theorem sth33 : Tryd.prog.stoodInHeld 33 = false := by kernel_rfl
theorem eqg34 : Tryd.prog.eqGuardType Tryd.prog.depth 34 = false := by kernel_rfl
theorem sth34 : Tryd.prog.stoodInHeld 34 = false := by kernel_rfl
theorem eqg56 : Tryd.prog.eqGuardType Tryd.prog.depth 56 = false := by kernel_rfl
theorem mixed : Tryd.prog.follows .mixedOrders = true := Tryd.checked.mixed
theorem ent3 : Enters Tryd.prog 3 := enters_of Tryd.func3 (by kernel_rfl) rfl
theorem ent4 : Enters Tryd.prog 4 := enters_of Tryd.func4 (by kernel_rfl) rfl
theorem ent5 : Enters Tryd.prog 5 := enters_of Tryd.func5 (by kernel_rfl) rfl
theorem ent6 : Enters Tryd.prog 6 := enters_of Tryd.func6 (by kernel_rfl) rfl
theorem ent7 : Enters Tryd.prog 7 := enters_of Tryd.func7 (by kernel_rfl) rfl
theorem ent8 : Enters Tryd.prog 8 := enters_of Tryd.func8 (by kernel_rfl) rfl
theorem ent9 : Enters Tryd.prog 9 := enters_of Tryd.func9 (by kernel_rfl) rfl
theorem ent10 : Enters Tryd.prog 10 := enters_of Tryd.func10 (by kernel_rfl) rfl
theorem ent11 : Enters Tryd.prog 11 := enters_of Tryd.func11 (by kernel_rfl) rfl
theorem ent12 : Enters Tryd.prog 12 := enters_of Tryd.func12 (by kernel_rfl) rfl
theorem ent13 : Enters Tryd.prog 13 := enters_of Tryd.func13 (by kernel_rfl) rfl
theorem ent14 : Enters Tryd.prog 14 := enters_of Tryd.func14 (by kernel_rfl) rfl
theorem ent15 : Enters Tryd.prog 15 := enters_of Tryd.func15 (by kernel_rfl) rfl
theorem ent16 : Enters Tryd.prog 16 := enters_of Tryd.func16 (by kernel_rfl) rfl
theorem ent17 : Enters Tryd.prog 17 := enters_of Tryd.func17 (by kernel_rfl) rfl
theorem ent18 : Enters Tryd.prog 18 := enters_of Tryd.func18 (by kernel_rfl) rfl
theorem ent19 : Enters Tryd.prog 19 := enters_of Tryd.func19 (by kernel_rfl) rfl
theorem ent20 : Enters Tryd.prog 20 := enters_of Tryd.func20 (by kernel_rfl) rfl
theorem ent21 : Enters Tryd.prog 21 := enters_of Tryd.func21 (by kernel_rfl) rfl
theorem ent22 : Enters Tryd.prog 22 := enters_of Tryd.func22 (by kernel_rfl) rfl
theorem ent23 : Enters Tryd.prog 23 := enters_of Tryd.func23 (by kernel_rfl) rfl
theorem ent24 : Enters Tryd.prog 24 := enters_of Tryd.func24 (by kernel_rfl) rfl
theorem ent25 : Enters Tryd.prog 25 := enters_of Tryd.func25 (by kernel_rfl) rfl
theorem ent26 : Enters Tryd.prog 26 := enters_of Tryd.func26 (by kernel_rfl) rfl
theorem ent27 : Enters Tryd.prog 27 := enters_of Tryd.func27 (by kernel_rfl) rfl
theorem ent29 : Enters Tryd.prog 29 := enters_of Tryd.func29 (by kernel_rfl) rfl
theorem ent31 : Enters Tryd.prog 31 := enters_of Tryd.func31 (by kernel_rfl) rfl
theorem ent32 : Enters Tryd.prog 32 := enters_of Tryd.func32 (by kernel_rfl) rfl
theorem ent33 : Enters Tryd.prog 33 := enters_of Tryd.func33 (by kernel_rfl) rfl
theorem ent53 : Enters Tryd.prog 53 := enters_of Tryd.func53 (by kernel_rfl) rfl
end Go.Proofs.YtgoopgnnkhpmlaaDoor
