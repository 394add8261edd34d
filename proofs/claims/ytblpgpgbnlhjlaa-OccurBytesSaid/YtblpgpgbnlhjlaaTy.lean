/- PRINTED BY A PROGRAM OF THIS REPO (tytab.py). The types of the seat, as a table; each function can be entered. -/
import Derived.Test.YtblpgpgbnlhjlaaSld2
import Derived.Test.YtblpgpgbnlhjlaaRows
namespace Go.Proofs.Ytblpgpgbnlhjlaa
open Go Go.RowKit Sl
set_option maxRecDepth 100000
def ty1 : TI := { u := .func #[] #[] false, size := 1, bytes := 8, zero := .nilFunc }
theorem tyOk1 : TyOk Try.prog 1 ty1 := ⟨Try.underlying1, by kernel_rfl⟩
def ty2 : TI := { u := .int .i64, size := 1, bytes := 8, zero := .int .i64 (0) }
theorem tyOk2 : TyOk Try.prog 2 ty2 := ⟨Try.underlying2, by kernel_rfl⟩
def ty3 : TI := { u := .int .i64, size := 1, bytes := 8, zero := .int .i64 (0) }
theorem tyOk3 : TyOk Try.prog 3 ty3 := ⟨Try.underlying3, by kernel_rfl⟩
def ty4 : TI := { u := .bool, size := 1, bytes := 1, zero := .bool false }
theorem tyOk4 : TyOk Try.prog 4 ty4 := ⟨Try.underlying4, by kernel_rfl⟩
def ty5 : TI := { u := .int .u8, size := 1, bytes := 1, zero := .int .u8 (0) }
theorem tyOk5 : TyOk Try.prog 5 ty5 := ⟨Try.underlying5, by kernel_rfl⟩
def ty9 : TI := { u := .string, size := 1, bytes := 16, zero := .string ⟨#[]⟩ }
theorem tyOk9 : TyOk Try.prog 9 ty9 := ⟨Try.underlying9, by kernel_rfl⟩
def ty12 : TI := { u := .int .u64, size := 1, bytes := 8, zero := .int .u64 (0) }
theorem tyOk12 : TyOk Try.prog 12 ty12 := ⟨Try.underlying12, by kernel_rfl⟩
def ty21 : TI := { u := .int .i32, size := 1, bytes := 4, zero := .int .i32 (0) }
theorem tyOk21 : TyOk Try.prog 21 ty21 := ⟨Try.underlying21, by kernel_rfl⟩
def ty22 : TI := { u := .func #[] #[4] false, size := 1, bytes := 8, zero := .nilFunc }
theorem tyOk22 : TyOk Try.prog 22 ty22 := ⟨Try.underlying22, by kernel_rfl⟩
def ty23 : TI := { u := .int .i64, size := 1, bytes := 8, zero := .int .i64 (0) }
theorem tyOk23 : TyOk Try.prog 23 ty23 := ⟨Try.underlying23, by kernel_rfl⟩
def ty25 : TI := { u := .func #[9, 9, 3] #[3, 23] false, size := 1, bytes := 8, zero := .nilFunc }
theorem tyOk25 : TyOk Try.prog 25 ty25 := ⟨Try.underlying25, by kernel_rfl⟩
def ty26 : TI := { u := .func #[5] #[4] false, size := 1, bytes := 8, zero := .nilFunc }
theorem tyOk26 : TyOk Try.prog 26 ty26 := ⟨Try.underlying26, by kernel_rfl⟩
def ty27 : TI := { u := .func #[9, 9, 5] #[4] false, size := 1, bytes := 8, zero := .nilFunc }
theorem tyOk27 : TyOk Try.prog 27 ty27 := ⟨Try.underlying27, by kernel_rfl⟩
def ty28 : TI := { u := .slice 33, size := 1, bytes := 24, zero := .slice none 0 0 }
theorem tyOk28 : TyOk Try.prog 28 ty28 := ⟨Try.underlying28, by kernel_rfl⟩
def ty30 : TI := { u := .func #[9, 9, 3] #[28, 4, 3, 23] false, size := 1, bytes := 8, zero := .nilFunc }
theorem tyOk30 : TyOk Try.prog 30 ty30 := ⟨Try.underlying30, by kernel_rfl⟩
def ty31 : TI := { u := .func #[28, 28] #[4] false, size := 1, bytes := 8, zero := .nilFunc }
theorem tyOk31 : TyOk Try.prog 31 ty31 := ⟨Try.underlying31, by kernel_rfl⟩
def ty32 : TI := { u := .struct #[{ name := "From", type := 3, offset := 0, embedded := false, tag := "", pkgPath := "", byteOffset := 0 }, { name := "To", type := 3, offset := 1, embedded := false, tag := "", pkgPath := "", byteOffset := 8 }], size := 2, bytes := 16, zero := .agg #[.int .i64 (0), .int .i64 (0)] }
theorem tyOk32 : TyOk Try.prog 32 ty32 := ⟨Try.underlying32, by kernel_rfl⟩
def ty33 : TI := { u := .struct #[{ name := "From", type := 3, offset := 0, embedded := false, tag := "", pkgPath := "", byteOffset := 0 }, { name := "To", type := 3, offset := 1, embedded := false, tag := "", pkgPath := "", byteOffset := 8 }], size := 2, bytes := 16, zero := .agg #[.int .i64 (0), .int .i64 (0)] }
theorem tyOk33 : TyOk Try.prog 33 ty33 := ⟨Try.underlying33, by kernel_rfl⟩
def ty34 : TI := { u := .func #[5, 5] #[4] false, size := 1, bytes := 8, zero := .nilFunc }
theorem tyOk34 : TyOk Try.prog 34 ty34 := ⟨Try.underlying34, by kernel_rfl⟩
def ty36 : TI := { u := .func #[9, 9, 3] #[28, 4, 23] false, size := 1, bytes := 8, zero := .nilFunc }
theorem tyOk36 : TyOk Try.prog 36 ty36 := ⟨Try.underlying36, by kernel_rfl⟩
def ty37 : TI := { u := .func #[9, 9] #[4] false, size := 1, bytes := 8, zero := .nilFunc }
theorem tyOk37 : TyOk Try.prog 37 ty37 := ⟨Try.underlying37, by kernel_rfl⟩
def ty38 : TI := { u := .func #[9] #[4] false, size := 1, bytes := 8, zero := .nilFunc }
theorem tyOk38 : TyOk Try.prog 38 ty38 := ⟨Try.underlying38, by kernel_rfl⟩
def ty39 : TI := { u := .pointer 112, size := 1, bytes := 8, zero := .pointer none }
theorem tyOk39 : TyOk Try.prog 39 ty39 := ⟨Try.underlying39, by kernel_rfl⟩
def ty40 : TI := { u := .func #[9, 3] #[28, 4, 23] false, size := 1, bytes := 8, zero := .nilFunc }
theorem tyOk40 : TyOk Try.prog 40 ty40 := ⟨Try.underlying40, by kernel_rfl⟩
def ty41 : TI := { u := .func #[] #[9] false, size := 1, bytes := 8, zero := .nilFunc }
theorem tyOk41 : TyOk Try.prog 41 ty41 := ⟨Try.underlying41, by kernel_rfl⟩
def ty42 : TI := { u := .func #[] #[3] false, size := 1, bytes := 8, zero := .nilFunc }
theorem tyOk42 : TyOk Try.prog 42 ty42 := ⟨Try.underlying42, by kernel_rfl⟩
def ty43 : TI := { u := .func #[9, 3] #[4] false, size := 1, bytes := 8, zero := .nilFunc }
theorem tyOk43 : TyOk Try.prog 43 ty43 := ⟨Try.underlying43, by kernel_rfl⟩
def ty44 : TI := { u := .slice 5, size := 1, bytes := 24, zero := .slice none 0 0 }
theorem tyOk44 : TyOk Try.prog 44 ty44 := ⟨Try.underlying44, by kernel_rfl⟩
def ty45 : TI := { u := .slice 28, size := 1, bytes := 24, zero := .slice none 0 0 }
theorem tyOk45 : TyOk Try.prog 45 ty45 := ⟨Try.underlying45, by kernel_rfl⟩
def ty47 : TI := { u := .func #[9, 9, 3] #[45, 23] false, size := 1, bytes := 8, zero := .nilFunc }
theorem tyOk47 : TyOk Try.prog 47 ty47 := ⟨Try.underlying47, by kernel_rfl⟩
def ty48 : TI := { u := .func #[5, 9] #[4] false, size := 1, bytes := 8, zero := .nilFunc }
theorem tyOk48 : TyOk Try.prog 48 ty48 := ⟨Try.underlying48, by kernel_rfl⟩
def ty50 : TI := { u := .func #[39, 9, 3] #[45, 23, 4] false, size := 1, bytes := 8, zero := .nilFunc }
theorem tyOk50 : TyOk Try.prog 50 ty50 := ⟨Try.underlying50, by kernel_rfl⟩
def ty51 : TI := { u := .pointer 119, size := 1, bytes := 8, zero := .pointer none }
theorem tyOk51 : TyOk Try.prog 51 ty51 := ⟨Try.underlying51, by kernel_rfl⟩
def ty53 : TI := { u := .func #[59] #[51, 23] false, size := 1, bytes := 8, zero := .nilFunc }
theorem tyOk53 : TyOk Try.prog 53 ty53 := ⟨Try.underlying53, by kernel_rfl⟩
def ty54 : TI := { u := .struct #[{ name := "Kind", type := 3, offset := 0, embedded := false, tag := "", pkgPath := "", byteOffset := 0 }, { name := "Line", type := 3, offset := 1, embedded := false, tag := "", pkgPath := "", byteOffset := 8 }, { name := "Re", type := 9, offset := 2, embedded := false, tag := "", pkgPath := "", byteOffset := 16 }], size := 3, bytes := 32, zero := .agg #[.int .i64 (0), .int .i64 (0), .string ⟨#[]⟩] }
theorem tyOk54 : TyOk Try.prog 54 ty54 := ⟨Try.underlying54, by kernel_rfl⟩
def ty55 : TI := { u := .struct #[{ name := "Kind", type := 3, offset := 0, embedded := false, tag := "", pkgPath := "", byteOffset := 0 }, { name := "Line", type := 3, offset := 1, embedded := false, tag := "", pkgPath := "", byteOffset := 8 }, { name := "Re", type := 9, offset := 2, embedded := false, tag := "", pkgPath := "", byteOffset := 16 }], size := 3, bytes := 32, zero := .agg #[.int .i64 (0), .int .i64 (0), .string ⟨#[]⟩] }
theorem tyOk55 : TyOk Try.prog 55 ty55 := ⟨Try.underlying55, by kernel_rfl⟩
def ty56 : TI := { u := .func #[3] #[55] false, size := 1, bytes := 8, zero := .nilFunc }
theorem tyOk56 : TyOk Try.prog 56 ty56 := ⟨Try.underlying56, by kernel_rfl⟩
def ty57 : TI := { u := .struct #[{ name := "A", type := 55, offset := 0, embedded := false, tag := "", pkgPath := "", byteOffset := 0 }, { name := "B", type := 55, offset := 3, embedded := false, tag := "", pkgPath := "", byteOffset := 32 }, { name := "Not", type := 4, offset := 6, embedded := false, tag := "", pkgPath := "", byteOffset := 64 }], size := 7, bytes := 72, zero := .agg #[.int .i64 (0), .int .i64 (0), .string ⟨#[]⟩, .int .i64 (0), .int .i64 (0), .string ⟨#[]⟩, .bool false] }
theorem tyOk57 : TyOk Try.prog 57 ty57 := ⟨Try.underlying57, by kernel_rfl⟩
def ty58 : TI := { u := .struct #[{ name := "A", type := 55, offset := 0, embedded := false, tag := "", pkgPath := "", byteOffset := 0 }, { name := "B", type := 55, offset := 3, embedded := false, tag := "", pkgPath := "", byteOffset := 32 }, { name := "Not", type := 4, offset := 6, embedded := false, tag := "", pkgPath := "", byteOffset := 64 }], size := 7, bytes := 72, zero := .agg #[.int .i64 (0), .int .i64 (0), .string ⟨#[]⟩, .int .i64 (0), .int .i64 (0), .string ⟨#[]⟩, .bool false] }
theorem tyOk58 : TyOk Try.prog 58 ty58 := ⟨Try.underlying58, by kernel_rfl⟩
def ty59 : TI := { u := .slice 58, size := 1, bytes := 24, zero := .slice none 0 0 }
theorem tyOk59 : TyOk Try.prog 59 ty59 := ⟨Try.underlying59, by kernel_rfl⟩
def ty60 : TI := { u := .array 5 4, size := 5, bytes := 5, zero := .agg #[.bool false, .bool false, .bool false, .bool false, .bool false] }
theorem tyOk60 : TyOk Try.prog 60 ty60 := ⟨Try.underlying60, by kernel_rfl⟩
def ty62 : TI := { u := .func #[3, 3, 4, 9] #[4, 4, 23] false, size := 1, bytes := 8, zero := .nilFunc }
theorem tyOk62 : TyOk Try.prog 62 ty62 := ⟨Try.underlying62, by kernel_rfl⟩
def ty63 : TI := { u := .func #[5, 5, 5] #[4] false, size := 1, bytes := 8, zero := .nilFunc }
theorem tyOk63 : TyOk Try.prog 63 ty63 := ⟨Try.underlying63, by kernel_rfl⟩
def ty64 : TI := { u := .func #[9] #[55] false, size := 1, bytes := 8, zero := .nilFunc }
theorem tyOk64 : TyOk Try.prog 64 ty64 := ⟨Try.underlying64, by kernel_rfl⟩
def ty65 : TI := { u := .func #[39] #[] false, size := 1, bytes := 8, zero := .nilFunc }
theorem tyOk65 : TyOk Try.prog 65 ty65 := ⟨Try.underlying65, by kernel_rfl⟩
def ty66 : TI := { u := .struct #[{ name := "E", type := 23, offset := 0, embedded := false, tag := "", pkgPath := "", byteOffset := 0 }, { name := "At", type := 3, offset := 1, embedded := false, tag := "", pkgPath := "", byteOffset := 8 }], size := 2, bytes := 16, zero := .agg #[.int .i64 (0), .int .i64 (0)] }
theorem tyOk66 : TyOk Try.prog 66 ty66 := ⟨Try.underlying66, by kernel_rfl⟩
def ty67 : TI := { u := .struct #[{ name := "E", type := 23, offset := 0, embedded := false, tag := "", pkgPath := "", byteOffset := 0 }, { name := "At", type := 3, offset := 1, embedded := false, tag := "", pkgPath := "", byteOffset := 8 }], size := 2, bytes := 16, zero := .agg #[.int .i64 (0), .int .i64 (0)] }
theorem tyOk67 : TyOk Try.prog 67 ty67 := ⟨Try.underlying67, by kernel_rfl⟩
def ty69 : TI := { u := .func #[9] #[39, 67] false, size := 1, bytes := 8, zero := .nilFunc }
theorem tyOk69 : TyOk Try.prog 69 ty69 := ⟨Try.underlying69, by kernel_rfl⟩
def ty70 : TI := { u := .func #[] #[39] false, size := 1, bytes := 8, zero := .nilFunc }
theorem tyOk70 : TyOk Try.prog 70 ty70 := ⟨Try.underlying70, by kernel_rfl⟩
def ty71 : TI := { u := .func #[9, 4] #[4] false, size := 1, bytes := 8, zero := .nilFunc }
theorem tyOk71 : TyOk Try.prog 71 ty71 := ⟨Try.underlying71, by kernel_rfl⟩
def ty72 : TI := { u := .struct #[{ name := "Group", type := 3, offset := 0, embedded := false, tag := "", pkgPath := "", byteOffset := 0 }, { name := "Text", type := 9, offset := 1, embedded := false, tag := "", pkgPath := "", byteOffset := 8 }], size := 2, bytes := 24, zero := .agg #[.int .i64 (0), .string ⟨#[]⟩] }
theorem tyOk72 : TyOk Try.prog 72 ty72 := ⟨Try.underlying72, by kernel_rfl⟩
def ty73 : TI := { u := .struct #[{ name := "Group", type := 3, offset := 0, embedded := false, tag := "", pkgPath := "", byteOffset := 0 }, { name := "Text", type := 9, offset := 1, embedded := false, tag := "", pkgPath := "", byteOffset := 8 }], size := 2, bytes := 24, zero := .agg #[.int .i64 (0), .string ⟨#[]⟩] }
theorem tyOk73 : TyOk Try.prog 73 ty73 := ⟨Try.underlying73, by kernel_rfl⟩
def ty74 : TI := { u := .slice 73, size := 1, bytes := 24, zero := .slice none 0 0 }
theorem tyOk74 : TyOk Try.prog 74 ty74 := ⟨Try.underlying74, by kernel_rfl⟩
def ty76 : TI := { u := .func #[39, 74, 3, 4, 9] #[9, 3, 23] false, size := 1, bytes := 8, zero := .nilFunc }
theorem tyOk76 : TyOk Try.prog 76 ty76 := ⟨Try.underlying76, by kernel_rfl⟩
def ty77 : TI := { u := .int .u64, size := 1, bytes := 8, zero := .int .u64 (0) }
theorem tyOk77 : TyOk Try.prog 77 ty77 := ⟨Try.underlying77, by kernel_rfl⟩
def ty78 : TI := { u := .array 4 77, size := 4, bytes := 32, zero := .agg #[.int .u64 (0), .int .u64 (0), .int .u64 (0), .int .u64 (0)] }
theorem tyOk78 : TyOk Try.prog 78 ty78 := ⟨Try.underlying78, by kernel_rfl⟩
def ty79 : TI := { u := .array 4 77, size := 4, bytes := 32, zero := .agg #[.int .u64 (0), .int .u64 (0), .int .u64 (0), .int .u64 (0)] }
theorem tyOk79 : TyOk Try.prog 79 ty79 := ⟨Try.underlying79, by kernel_rfl⟩
def ty80 : TI := { u := .slice 82, size := 1, bytes := 24, zero := .slice none 0 0 }
theorem tyOk80 : TyOk Try.prog 80 ty80 := ⟨Try.underlying80, by kernel_rfl⟩
def ty81 : TI := { u := .struct #[{ name := "Kind", type := 3, offset := 0, embedded := false, tag := "", pkgPath := "", byteOffset := 0 }, { name := "Set", type := 79, offset := 1, embedded := false, tag := "", pkgPath := "", byteOffset := 8 }, { name := "Lo", type := 3, offset := 5, embedded := false, tag := "", pkgPath := "", byteOffset := 40 }, { name := "Hi", type := 3, offset := 6, embedded := false, tag := "", pkgPath := "", byteOffset := 48 }, { name := "Group", type := 3, offset := 7, embedded := false, tag := "", pkgPath := "", byteOffset := 56 }, { name := "Kids", type := 80, offset := 8, embedded := false, tag := "", pkgPath := "", byteOffset := 64 }], size := 9, bytes := 88, zero := .agg #[.int .i64 (0), .int .u64 (0), .int .u64 (0), .int .u64 (0), .int .u64 (0), .int .i64 (0), .int .i64 (0), .int .i64 (0), .slice none 0 0] }
theorem tyOk81 : TyOk Try.prog 81 ty81 := ⟨Try.underlying81, by kernel_rfl⟩
def ty82 : TI := { u := .struct #[{ name := "Kind", type := 3, offset := 0, embedded := false, tag := "", pkgPath := "", byteOffset := 0 }, { name := "Set", type := 79, offset := 1, embedded := false, tag := "", pkgPath := "", byteOffset := 8 }, { name := "Lo", type := 3, offset := 5, embedded := false, tag := "", pkgPath := "", byteOffset := 40 }, { name := "Hi", type := 3, offset := 6, embedded := false, tag := "", pkgPath := "", byteOffset := 48 }, { name := "Group", type := 3, offset := 7, embedded := false, tag := "", pkgPath := "", byteOffset := 56 }, { name := "Kids", type := 80, offset := 8, embedded := false, tag := "", pkgPath := "", byteOffset := 64 }], size := 9, bytes := 88, zero := .agg #[.int .i64 (0), .int .u64 (0), .int .u64 (0), .int .u64 (0), .int .u64 (0), .int .i64 (0), .int .i64 (0), .int .i64 (0), .slice none 0 0] }
theorem tyOk82 : TyOk Try.prog 82 ty82 := ⟨Try.underlying82, by kernel_rfl⟩
def ty84 : TI := { u := .func #[9] #[82, 67] false, size := 1, bytes := 8, zero := .nilFunc }
theorem tyOk84 : TyOk Try.prog 84 ty84 := ⟨Try.underlying84, by kernel_rfl⟩
def ty85 : TI := { u := .pointer 88, size := 1, bytes := 8, zero := .pointer none }
theorem tyOk85 : TyOk Try.prog 85 ty85 := ⟨Try.underlying85, by kernel_rfl⟩
def ty86 : TI := { u := .map 153 89, size := 1, bytes := 8, zero := .map none }
theorem tyOk86 : TyOk Try.prog 86 ty86 := ⟨Try.underlying86, by kernel_rfl⟩
def ty87 : TI := { u := .struct #[{ name := "subject", type := 9, offset := 0, embedded := false, tag := "", pkgPath := "runnel/ways", byteOffset := 0 }, { name := "rows", type := 86, offset := 1, embedded := false, tag := "", pkgPath := "runnel/ways", byteOffset := 16 }], size := 2, bytes := 24, zero := .agg #[.string ⟨#[]⟩, .map none] }
theorem tyOk87 : TyOk Try.prog 87 ty87 := ⟨Try.underlying87, by kernel_rfl⟩
def ty88 : TI := { u := .struct #[{ name := "subject", type := 9, offset := 0, embedded := false, tag := "", pkgPath := "runnel/ways", byteOffset := 0 }, { name := "rows", type := 86, offset := 1, embedded := false, tag := "", pkgPath := "runnel/ways", byteOffset := 16 }], size := 2, bytes := 24, zero := .agg #[.string ⟨#[]⟩, .map none] }
theorem tyOk88 : TyOk Try.prog 88 ty88 := ⟨Try.underlying88, by kernel_rfl⟩
def ty89 : TI := { u := .slice 3, size := 1, bytes := 24, zero := .slice none 0 0 }
theorem tyOk89 : TyOk Try.prog 89 ty89 := ⟨Try.underlying89, by kernel_rfl⟩
def ty90 : TI := { u := .func #[91, 3] #[89] false, size := 1, bytes := 8, zero := .nilFunc }
theorem tyOk90 : TyOk Try.prog 90 ty90 := ⟨Try.underlying90, by kernel_rfl⟩
def ty91 : TI := { u := .pointer 82, size := 1, bytes := 8, zero := .pointer none }
theorem tyOk91 : TyOk Try.prog 91 ty91 := ⟨Try.underlying91, by kernel_rfl⟩
def ty92 : TI := { u := .struct #[{ name := "Positions", type := 3, offset := 0, embedded := false, tag := "", pkgPath := "", byteOffset := 0 }, { name := "Groups", type := 3, offset := 1, embedded := false, tag := "", pkgPath := "", byteOffset := 8 }, { name := "Least", type := 3, offset := 2, embedded := false, tag := "", pkgPath := "", byteOffset := 16 }, { name := "Most", type := 3, offset := 3, embedded := false, tag := "", pkgPath := "", byteOffset := 24 }, { name := "Back", type := 4, offset := 4, embedded := false, tag := "", pkgPath := "", byteOffset := 32 }, { name := "Bol", type := 4, offset := 5, embedded := false, tag := "", pkgPath := "", byteOffset := 33 }, { name := "Eol", type := 4, offset := 6, embedded := false, tag := "", pkgPath := "", byteOffset := 34 }], size := 7, bytes := 40, zero := .agg #[.int .i64 (0), .int .i64 (0), .int .i64 (0), .int .i64 (0), .bool false, .bool false, .bool false] }
theorem tyOk92 : TyOk Try.prog 92 ty92 := ⟨Try.underlying92, by kernel_rfl⟩
def ty93 : TI := { u := .struct #[{ name := "Positions", type := 3, offset := 0, embedded := false, tag := "", pkgPath := "", byteOffset := 0 }, { name := "Groups", type := 3, offset := 1, embedded := false, tag := "", pkgPath := "", byteOffset := 8 }, { name := "Least", type := 3, offset := 2, embedded := false, tag := "", pkgPath := "", byteOffset := 16 }, { name := "Most", type := 3, offset := 3, embedded := false, tag := "", pkgPath := "", byteOffset := 24 }, { name := "Back", type := 4, offset := 4, embedded := false, tag := "", pkgPath := "", byteOffset := 32 }, { name := "Bol", type := 4, offset := 5, embedded := false, tag := "", pkgPath := "", byteOffset := 33 }, { name := "Eol", type := 4, offset := 6, embedded := false, tag := "", pkgPath := "", byteOffset := 34 }], size := 7, bytes := 40, zero := .agg #[.int .i64 (0), .int .i64 (0), .int .i64 (0), .int .i64 (0), .bool false, .bool false, .bool false] }
theorem tyOk93 : TyOk Try.prog 93 ty93 := ⟨Try.underlying93, by kernel_rfl⟩
def ty95 : TI := { u := .func #[9] #[93, 67] false, size := 1, bytes := 8, zero := .nilFunc }
theorem tyOk95 : TyOk Try.prog 95 ty95 := ⟨Try.underlying95, by kernel_rfl⟩
def ty96 : TI := { u := .pointer 100, size := 1, bytes := 8, zero := .pointer none }
theorem tyOk96 : TyOk Try.prog 96 ty96 := ⟨Try.underlying96, by kernel_rfl⟩
def ty97 : TI := { u := .struct #[{ name := "Subject", type := 9, offset := 0, embedded := false, tag := "", pkgPath := "", byteOffset := 0 }, { name := "Steps", type := 3, offset := 1, embedded := false, tag := "", pkgPath := "", byteOffset := 16 }], size := 2, bytes := 24, zero := .agg #[.string ⟨#[]⟩, .int .i64 (0)] }
theorem tyOk97 : TyOk Try.prog 97 ty97 := ⟨Try.underlying97, by kernel_rfl⟩
def ty98 : TI := { u := .struct #[{ name := "Subject", type := 9, offset := 0, embedded := false, tag := "", pkgPath := "", byteOffset := 0 }, { name := "Steps", type := 3, offset := 1, embedded := false, tag := "", pkgPath := "", byteOffset := 16 }], size := 2, bytes := 24, zero := .agg #[.string ⟨#[]⟩, .int .i64 (0)] }
theorem tyOk98 : TyOk Try.prog 98 ty98 := ⟨Try.underlying98, by kernel_rfl⟩
def ty99 : TI := { u := .struct #[{ name := "Walk", type := 98, offset := 0, embedded := true, tag := "", pkgPath := "", byteOffset := 0 }, { name := "spans", type := 28, offset := 2, embedded := false, tag := "", pkgPath := "runnel/setmatch", byteOffset := 24 }], size := 3, bytes := 48, zero := .agg #[.string ⟨#[]⟩, .int .i64 (0), .slice none 0 0] }
theorem tyOk99 : TyOk Try.prog 99 ty99 := ⟨Try.underlying99, by kernel_rfl⟩
def ty100 : TI := { u := .struct #[{ name := "Walk", type := 98, offset := 0, embedded := true, tag := "", pkgPath := "", byteOffset := 0 }, { name := "spans", type := 28, offset := 2, embedded := false, tag := "", pkgPath := "runnel/setmatch", byteOffset := 24 }], size := 3, bytes := 48, zero := .agg #[.string ⟨#[]⟩, .int .i64 (0), .slice none 0 0] }
theorem tyOk100 : TyOk Try.prog 100 ty100 := ⟨Try.underlying100, by kernel_rfl⟩
def ty102 : TI := { u := .func #[103, 3] #[33, 4] false, size := 1, bytes := 8, zero := .nilFunc }
theorem tyOk102 : TyOk Try.prog 102 ty102 := ⟨Try.underlying102, by kernel_rfl⟩
def ty103 : TI := { u := .pointer 163, size := 1, bytes := 8, zero := .pointer none }
theorem tyOk103 : TyOk Try.prog 103 ty103 := ⟨Try.underlying103, by kernel_rfl⟩
def ty104 : TI := { u := .func #[80] #[103] false, size := 1, bytes := 8, zero := .nilFunc }
theorem tyOk104 : TyOk Try.prog 104 ty104 := ⟨Try.underlying104, by kernel_rfl⟩
def ty105 : TI := { u := .func #[91, 3, 3] #[] false, size := 1, bytes := 8, zero := .nilFunc }
theorem tyOk105 : TyOk Try.prog 105 ty105 := ⟨Try.underlying105, by kernel_rfl⟩
def ty106 : TI := { u := .pointer 109, size := 1, bytes := 8, zero := .pointer none }
theorem tyOk106 : TyOk Try.prog 106 ty106 := ⟨Try.underlying106, by kernel_rfl⟩
def ty107 : TI := { u := .map 220 89, size := 1, bytes := 8, zero := .map none }
theorem tyOk107 : TyOk Try.prog 107 ty107 := ⟨Try.underlying107, by kernel_rfl⟩
def ty108 : TI := { u := .struct #[{ name := "walk", type := 98, offset := 0, embedded := false, tag := "", pkgPath := "runnel/backmatch", byteOffset := 0 }, { name := "spans", type := 28, offset := 2, embedded := false, tag := "", pkgPath := "runnel/backmatch", byteOffset := 24 }, { name := "found", type := 107, offset := 3, embedded := false, tag := "", pkgPath := "runnel/backmatch", byteOffset := 48 }], size := 4, bytes := 56, zero := .agg #[.string ⟨#[]⟩, .int .i64 (0), .slice none 0 0, .map none] }
theorem tyOk108 : TyOk Try.prog 108 ty108 := ⟨Try.underlying108, by kernel_rfl⟩
def ty109 : TI := { u := .struct #[{ name := "walk", type := 98, offset := 0, embedded := false, tag := "", pkgPath := "runnel/backmatch", byteOffset := 0 }, { name := "spans", type := 28, offset := 2, embedded := false, tag := "", pkgPath := "runnel/backmatch", byteOffset := 24 }, { name := "found", type := 107, offset := 3, embedded := false, tag := "", pkgPath := "runnel/backmatch", byteOffset := 48 }], size := 4, bytes := 56, zero := .agg #[.string ⟨#[]⟩, .int .i64 (0), .slice none 0 0, .map none] }
theorem tyOk109 : TyOk Try.prog 109 ty109 := ⟨Try.underlying109, by kernel_rfl⟩
def ty110 : TI := { u := .func #[91, 103, 3, 3] #[4] false, size := 1, bytes := 8, zero := .nilFunc }
theorem tyOk110 : TyOk Try.prog 110 ty110 := ⟨Try.underlying110, by kernel_rfl⟩
def ty111 : TI := { u := .struct #[{ name := "text", type := 9, offset := 0, embedded := false, tag := "", pkgPath := "runnel/matcher", byteOffset := 0 }, { name := "known", type := 93, offset := 1, embedded := false, tag := "", pkgPath := "runnel/matcher", byteOffset := 16 }, { name := "steps", type := 3, offset := 8, embedded := false, tag := "", pkgPath := "runnel/matcher", byteOffset := 56 }, { name := "match", type := 40, offset := 9, embedded := false, tag := "", pkgPath := "runnel/matcher", byteOffset := 64 }], size := 10, bytes := 72, zero := .agg #[.string ⟨#[]⟩, .int .i64 (0), .int .i64 (0), .int .i64 (0), .int .i64 (0), .bool false, .bool false, .bool false, .int .i64 (0), .nilFunc] }
theorem tyOk111 : TyOk Try.prog 111 ty111 := ⟨Try.underlying111, by kernel_rfl⟩
def ty112 : TI := { u := .struct #[{ name := "text", type := 9, offset := 0, embedded := false, tag := "", pkgPath := "runnel/matcher", byteOffset := 0 }, { name := "known", type := 93, offset := 1, embedded := false, tag := "", pkgPath := "runnel/matcher", byteOffset := 16 }, { name := "steps", type := 3, offset := 8, embedded := false, tag := "", pkgPath := "runnel/matcher", byteOffset := 56 }, { name := "match", type := 40, offset := 9, embedded := false, tag := "", pkgPath := "runnel/matcher", byteOffset := 64 }], size := 10, bytes := 72, zero := .agg #[.string ⟨#[]⟩, .int .i64 (0), .int .i64 (0), .int .i64 (0), .int .i64 (0), .bool false, .bool false, .bool false, .int .i64 (0), .nilFunc] }
theorem tyOk112 : TyOk Try.prog 112 ty112 := ⟨Try.underlying112, by kernel_rfl⟩
def ty113 : TI := { u := .func #[45, 45] #[4] false, size := 1, bytes := 8, zero := .nilFunc }
theorem tyOk113 : TyOk Try.prog 113 ty113 := ⟨Try.underlying113, by kernel_rfl⟩
def ty114 : TI := { u := .func #[167] #[] false, size := 1, bytes := 8, zero := .nilFunc }
theorem tyOk114 : TyOk Try.prog 114 ty114 := ⟨Try.underlying114, by kernel_rfl⟩
def ty115 : TI := { u := .func #[167] #[] false, size := 1, bytes := 8, zero := .nilFunc }
theorem tyOk115 : TyOk Try.prog 115 ty115 := ⟨Try.underlying115, by kernel_rfl⟩
def ty116 : TI := { u := .func #[39, 9] #[115] false, size := 1, bytes := 8, zero := .nilFunc }
theorem tyOk116 : TyOk Try.prog 116 ty116 := ⟨Try.underlying116, by kernel_rfl⟩
def ty117 : TI := { u := .slice 123, size := 1, bytes := 24, zero := .slice none 0 0 }
theorem tyOk117 : TyOk Try.prog 117 ty117 := ⟨Try.underlying117, by kernel_rfl⟩
def ty118 : TI := { u := .struct #[{ name := "rows", type := 117, offset := 0, embedded := false, tag := "", pkgPath := "runnel/pick", byteOffset := 0 }, { name := "last", type := 39, offset := 1, embedded := false, tag := "", pkgPath := "runnel/pick", byteOffset := 24 }], size := 2, bytes := 32, zero := .agg #[.slice none 0 0, .pointer none] }
theorem tyOk118 : TyOk Try.prog 118 ty118 := ⟨Try.underlying118, by kernel_rfl⟩
def ty119 : TI := { u := .struct #[{ name := "rows", type := 117, offset := 0, embedded := false, tag := "", pkgPath := "runnel/pick", byteOffset := 0 }, { name := "last", type := 39, offset := 1, embedded := false, tag := "", pkgPath := "runnel/pick", byteOffset := 24 }], size := 2, bytes := 32, zero := .agg #[.slice none 0 0, .pointer none] }
theorem tyOk119 : TyOk Try.prog 119 ty119 := ⟨Try.underlying119, by kernel_rfl⟩
def ty121 : TI := { u := .func #[55] #[39, 23] false, size := 1, bytes := 8, zero := .nilFunc }
theorem tyOk121 : TyOk Try.prog 121 ty121 := ⟨Try.underlying121, by kernel_rfl⟩
def ty122 : TI := { u := .struct #[{ name := "row", type := 58, offset := 0, embedded := false, tag := "", pkgPath := "runnel/pick", byteOffset := 0 }, { name := "a", type := 39, offset := 7, embedded := false, tag := "", pkgPath := "runnel/pick", byteOffset := 72 }, { name := "b", type := 39, offset := 8, embedded := false, tag := "", pkgPath := "runnel/pick", byteOffset := 80 }, { name := "on", type := 4, offset := 9, embedded := false, tag := "", pkgPath := "runnel/pick", byteOffset := 88 }], size := 10, bytes := 96, zero := .agg #[.int .i64 (0), .int .i64 (0), .string ⟨#[]⟩, .int .i64 (0), .int .i64 (0), .string ⟨#[]⟩, .bool false, .pointer none, .pointer none, .bool false] }
theorem tyOk122 : TyOk Try.prog 122 ty122 := ⟨Try.underlying122, by kernel_rfl⟩
def ty123 : TI := { u := .struct #[{ name := "row", type := 58, offset := 0, embedded := false, tag := "", pkgPath := "runnel/pick", byteOffset := 0 }, { name := "a", type := 39, offset := 7, embedded := false, tag := "", pkgPath := "runnel/pick", byteOffset := 72 }, { name := "b", type := 39, offset := 8, embedded := false, tag := "", pkgPath := "runnel/pick", byteOffset := 80 }, { name := "on", type := 4, offset := 9, embedded := false, tag := "", pkgPath := "runnel/pick", byteOffset := 88 }], size := 10, bytes := 96, zero := .agg #[.int .i64 (0), .int .i64 (0), .string ⟨#[]⟩, .int .i64 (0), .int .i64 (0), .string ⟨#[]⟩, .bool false, .pointer none, .pointer none, .bool false] }
theorem tyOk123 : TyOk Try.prog 123 ty123 := ⟨Try.underlying123, by kernel_rfl⟩
def ty124 : TI := { u := .pointer 123, size := 1, bytes := 8, zero := .pointer none }
theorem tyOk124 : TyOk Try.prog 124 ty124 := ⟨Try.underlying124, by kernel_rfl⟩
def ty125 : TI := { u := .struct #[{ name := "line", type := 3, offset := 0, embedded := false, tag := "", pkgPath := "runnel/pick", byteOffset := 0 }, { name := "last", type := 4, offset := 1, embedded := false, tag := "", pkgPath := "runnel/pick", byteOffset := 8 }, { name := "space", type := 9, offset := 2, embedded := false, tag := "", pkgPath := "runnel/pick", byteOffset := 16 }], size := 3, bytes := 32, zero := .agg #[.int .i64 (0), .bool false, .string ⟨#[]⟩] }
theorem tyOk125 : TyOk Try.prog 125 ty125 := ⟨Try.underlying125, by kernel_rfl⟩
def ty126 : TI := { u := .struct #[{ name := "line", type := 3, offset := 0, embedded := false, tag := "", pkgPath := "runnel/pick", byteOffset := 0 }, { name := "last", type := 4, offset := 1, embedded := false, tag := "", pkgPath := "runnel/pick", byteOffset := 8 }, { name := "space", type := 9, offset := 2, embedded := false, tag := "", pkgPath := "runnel/pick", byteOffset := 16 }], size := 3, bytes := 32, zero := .agg #[.int .i64 (0), .bool false, .string ⟨#[]⟩] }
theorem tyOk126 : TyOk Try.prog 126 ty126 := ⟨Try.underlying126, by kernel_rfl⟩
def ty127 : TI := { u := .func #[124, 126] #[4, 4, 23] false, size := 1, bytes := 8, zero := .nilFunc }
theorem tyOk127 : TyOk Try.prog 127 ty127 := ⟨Try.underlying127, by kernel_rfl⟩
def ty129 : TI := { u := .func #[55, 39, 126] #[4, 23] false, size := 1, bytes := 8, zero := .nilFunc }
theorem tyOk129 : TyOk Try.prog 129 ty129 := ⟨Try.underlying129, by kernel_rfl⟩
def ty130 : TI := { u := .func #[55, 126] #[4] false, size := 1, bytes := 8, zero := .nilFunc }
theorem tyOk130 : TyOk Try.prog 130 ty130 := ⟨Try.underlying130, by kernel_rfl⟩
def ty131 : TI := { u := .pointer 133, size := 1, bytes := 8, zero := .pointer none }
theorem tyOk131 : TyOk Try.prog 131 ty131 := ⟨Try.underlying131, by kernel_rfl⟩
def ty132 : TI := { u := .struct #[{ name := "text", type := 44, offset := 0, embedded := false, tag := "", pkgPath := "runnel/subst", byteOffset := 0 }, { name := "full", type := 4, offset := 1, embedded := false, tag := "", pkgPath := "runnel/subst", byteOffset := 24 }], size := 2, bytes := 32, zero := .agg #[.slice none 0 0, .bool false] }
theorem tyOk132 : TyOk Try.prog 132 ty132 := ⟨Try.underlying132, by kernel_rfl⟩
def ty133 : TI := { u := .struct #[{ name := "text", type := 44, offset := 0, embedded := false, tag := "", pkgPath := "runnel/subst", byteOffset := 0 }, { name := "full", type := 4, offset := 1, embedded := false, tag := "", pkgPath := "runnel/subst", byteOffset := 24 }], size := 2, bytes := 32, zero := .agg #[.slice none 0 0, .bool false] }
theorem tyOk133 : TyOk Try.prog 133 ty133 := ⟨Try.underlying133, by kernel_rfl⟩
def ty135 : TI := { u := .func #[74, 9, 28] #[9, 23] false, size := 1, bytes := 8, zero := .nilFunc }
theorem tyOk135 : TyOk Try.prog 135 ty135 := ⟨Try.underlying135, by kernel_rfl⟩
def ty136 : TI := { u := .func #[9] #[] false, size := 1, bytes := 8, zero := .nilFunc }
theorem tyOk136 : TyOk Try.prog 136 ty136 := ⟨Try.underlying136, by kernel_rfl⟩
def ty137 : TI := { u := .pointer 143, size := 1, bytes := 8, zero := .pointer none }
theorem tyOk137 : TyOk Try.prog 137 ty137 := ⟨Try.underlying137, by kernel_rfl⟩
def ty138 : TI := { u := .struct #[{ name := "kids", type := 80, offset := 0, embedded := false, tag := "", pkgPath := "runnel/bre", byteOffset := 0 }, { name := "sizes", type := 89, offset := 1, embedded := false, tag := "", pkgPath := "runnel/bre", byteOffset := 24 }, { name := "group", type := 3, offset := 2, embedded := false, tag := "", pkgPath := "runnel/bre", byteOffset := 48 }, { name := "at", type := 3, offset := 3, embedded := false, tag := "", pkgPath := "runnel/bre", byteOffset := 56 }], size := 4, bytes := 64, zero := .agg #[.slice none 0 0, .slice none 0 0, .int .i64 (0), .int .i64 (0)] }
theorem tyOk138 : TyOk Try.prog 138 ty138 := ⟨Try.underlying138, by kernel_rfl⟩
def ty139 : TI := { u := .struct #[{ name := "kids", type := 80, offset := 0, embedded := false, tag := "", pkgPath := "runnel/bre", byteOffset := 0 }, { name := "sizes", type := 89, offset := 1, embedded := false, tag := "", pkgPath := "runnel/bre", byteOffset := 24 }, { name := "group", type := 3, offset := 2, embedded := false, tag := "", pkgPath := "runnel/bre", byteOffset := 48 }, { name := "at", type := 3, offset := 3, embedded := false, tag := "", pkgPath := "runnel/bre", byteOffset := 56 }], size := 4, bytes := 64, zero := .agg #[.slice none 0 0, .slice none 0 0, .int .i64 (0), .int .i64 (0)] }
theorem tyOk139 : TyOk Try.prog 139 ty139 := ⟨Try.underlying139, by kernel_rfl⟩
def ty140 : TI := { u := .slice 139, size := 1, bytes := 24, zero := .slice none 0 0 }
theorem tyOk140 : TyOk Try.prog 140 ty140 := ⟨Try.underlying140, by kernel_rfl⟩
def ty141 : TI := { u := .array 10 4, size := 10, bytes := 10, zero := .agg #[.bool false, .bool false, .bool false, .bool false, .bool false, .bool false, .bool false, .bool false, .bool false, .bool false] }
theorem tyOk141 : TyOk Try.prog 141 ty141 := ⟨Try.underlying141, by kernel_rfl⟩
def ty142 : TI := { u := .struct #[{ name := "frames", type := 140, offset := 0, embedded := false, tag := "", pkgPath := "runnel/bre", byteOffset := 0 }, { name := "groups", type := 3, offset := 1, embedded := false, tag := "", pkgPath := "runnel/bre", byteOffset := 24 }, { name := "shut", type := 141, offset := 2, embedded := false, tag := "", pkgPath := "runnel/bre", byteOffset := 32 }, { name := "size", type := 3, offset := 12, embedded := false, tag := "", pkgPath := "runnel/bre", byteOffset := 48 }], size := 13, bytes := 56, zero := .agg #[.slice none 0 0, .int .i64 (0), .bool false, .bool false, .bool false, .bool false, .bool false, .bool false, .bool false, .bool false, .bool false, .bool false, .int .i64 (0)] }
theorem tyOk142 : TyOk Try.prog 142 ty142 := ⟨Try.underlying142, by kernel_rfl⟩
def ty143 : TI := { u := .struct #[{ name := "frames", type := 140, offset := 0, embedded := false, tag := "", pkgPath := "runnel/bre", byteOffset := 0 }, { name := "groups", type := 3, offset := 1, embedded := false, tag := "", pkgPath := "runnel/bre", byteOffset := 24 }, { name := "shut", type := 141, offset := 2, embedded := false, tag := "", pkgPath := "runnel/bre", byteOffset := 32 }, { name := "size", type := 3, offset := 12, embedded := false, tag := "", pkgPath := "runnel/bre", byteOffset := 48 }], size := 13, bytes := 56, zero := .agg #[.slice none 0 0, .int .i64 (0), .bool false, .bool false, .bool false, .bool false, .bool false, .bool false, .bool false, .bool false, .bool false, .bool false, .int .i64 (0)] }
theorem tyOk143 : TyOk Try.prog 143 ty143 := ⟨Try.underlying143, by kernel_rfl⟩
def ty144 : TI := { u := .func #[176] #[] false, size := 1, bytes := 8, zero := .nilFunc }
theorem tyOk144 : TyOk Try.prog 144 ty144 := ⟨Try.underlying144, by kernel_rfl⟩
def ty145 : TI := { u := .func #[176] #[] false, size := 1, bytes := 8, zero := .nilFunc }
theorem tyOk145 : TyOk Try.prog 145 ty145 := ⟨Try.underlying145, by kernel_rfl⟩
def ty146 : TI := { u := .func #[9] #[145] false, size := 1, bytes := 8, zero := .nilFunc }
theorem tyOk146 : TyOk Try.prog 146 ty146 := ⟨Try.underlying146, by kernel_rfl⟩
def ty147 : TI := { u := .struct #[{ name := "kind", type := 3, offset := 0, embedded := false, tag := "", pkgPath := "runnel/bre", byteOffset := 0 }, { name := "at", type := 3, offset := 1, embedded := false, tag := "", pkgPath := "runnel/bre", byteOffset := 8 }, { name := "set", type := 79, offset := 2, embedded := false, tag := "", pkgPath := "runnel/bre", byteOffset := 16 }, { name := "lo", type := 3, offset := 6, embedded := false, tag := "", pkgPath := "runnel/bre", byteOffset := 48 }, { name := "hi", type := 3, offset := 7, embedded := false, tag := "", pkgPath := "runnel/bre", byteOffset := 56 }, { name := "e", type := 23, offset := 8, embedded := false, tag := "", pkgPath := "runnel/bre", byteOffset := 64 }], size := 9, bytes := 72, zero := .agg #[.int .i64 (0), .int .i64 (0), .int .u64 (0), .int .u64 (0), .int .u64 (0), .int .u64 (0), .int .i64 (0), .int .i64 (0), .int .i64 (0)] }
theorem tyOk147 : TyOk Try.prog 147 ty147 := ⟨Try.underlying147, by kernel_rfl⟩
def ty148 : TI := { u := .struct #[{ name := "kind", type := 3, offset := 0, embedded := false, tag := "", pkgPath := "runnel/bre", byteOffset := 0 }, { name := "at", type := 3, offset := 1, embedded := false, tag := "", pkgPath := "runnel/bre", byteOffset := 8 }, { name := "set", type := 79, offset := 2, embedded := false, tag := "", pkgPath := "runnel/bre", byteOffset := 16 }, { name := "lo", type := 3, offset := 6, embedded := false, tag := "", pkgPath := "runnel/bre", byteOffset := 48 }, { name := "hi", type := 3, offset := 7, embedded := false, tag := "", pkgPath := "runnel/bre", byteOffset := 56 }, { name := "e", type := 23, offset := 8, embedded := false, tag := "", pkgPath := "runnel/bre", byteOffset := 64 }], size := 9, bytes := 72, zero := .agg #[.int .i64 (0), .int .i64 (0), .int .u64 (0), .int .u64 (0), .int .u64 (0), .int .u64 (0), .int .i64 (0), .int .i64 (0), .int .i64 (0)] }
theorem tyOk148 : TyOk Try.prog 148 ty148 := ⟨Try.underlying148, by kernel_rfl⟩
def ty149 : TI := { u := .func #[148] #[23] false, size := 1, bytes := 8, zero := .nilFunc }
theorem tyOk149 : TyOk Try.prog 149 ty149 := ⟨Try.underlying149, by kernel_rfl⟩
def ty150 : TI := { u := .pointer 139, size := 1, bytes := 8, zero := .pointer none }
theorem tyOk150 : TyOk Try.prog 150 ty150 := ⟨Try.underlying150, by kernel_rfl⟩
def ty151 : TI := { u := .func #[] #[150] false, size := 1, bytes := 8, zero := .nilFunc }
theorem tyOk151 : TyOk Try.prog 151 ty151 := ⟨Try.underlying151, by kernel_rfl⟩
def ty152 : TI := { u := .struct #[{ name := "r", type := 91, offset := 0, embedded := false, tag := "", pkgPath := "runnel/ways", byteOffset := 0 }, { name := "at", type := 3, offset := 1, embedded := false, tag := "", pkgPath := "runnel/ways", byteOffset := 8 }], size := 2, bytes := 16, zero := .agg #[.pointer none, .int .i64 (0)] }
theorem tyOk152 : TyOk Try.prog 152 ty152 := ⟨Try.underlying152, by kernel_rfl⟩
def ty153 : TI := { u := .struct #[{ name := "r", type := 91, offset := 0, embedded := false, tag := "", pkgPath := "runnel/ways", byteOffset := 0 }, { name := "at", type := 3, offset := 1, embedded := false, tag := "", pkgPath := "runnel/ways", byteOffset := 8 }], size := 2, bytes := 16, zero := .agg #[.pointer none, .int .i64 (0)] }
theorem tyOk153 : TyOk Try.prog 153 ty153 := ⟨Try.underlying153, by kernel_rfl⟩
def ty155 : TI := { u := .func #[79, 5] #[4] false, size := 1, bytes := 8, zero := .nilFunc }
theorem tyOk155 : TyOk Try.prog 155 ty155 := ⟨Try.underlying155, by kernel_rfl⟩
def ty156 : TI := { u := .func #[89, 91] #[89] false, size := 1, bytes := 8, zero := .nilFunc }
theorem tyOk156 : TyOk Try.prog 156 ty156 := ⟨Try.underlying156, by kernel_rfl⟩
def ty157 : TI := { u := .func #[89, 91, 4] #[89] false, size := 1, bytes := 8, zero := .nilFunc }
theorem tyOk157 : TyOk Try.prog 157 ty157 := ⟨Try.underlying157, by kernel_rfl⟩
def ty158 : TI := { u := .func #[82] #[93] false, size := 1, bytes := 8, zero := .nilFunc }
theorem tyOk158 : TyOk Try.prog 158 ty158 := ⟨Try.underlying158, by kernel_rfl⟩
def ty159 : TI := { u := .slice 4, size := 1, bytes := 24, zero := .slice none 0 0 }
theorem tyOk159 : TyOk Try.prog 159 ty159 := ⟨Try.underlying159, by kernel_rfl⟩
def ty160 : TI := { u := .func #[103, 3] #[159] false, size := 1, bytes := 8, zero := .nilFunc }
theorem tyOk160 : TyOk Try.prog 160 ty160 := ⟨Try.underlying160, by kernel_rfl⟩
def ty161 : TI := { u := .slice 213, size := 1, bytes := 24, zero := .slice none 0 0 }
theorem tyOk161 : TyOk Try.prog 161 ty161 := ⟨Try.underlying161, by kernel_rfl⟩
def ty162 : TI := { u := .struct #[{ name := "out", type := 161, offset := 0, embedded := false, tag := "", pkgPath := "runnel/nfa", byteOffset := 0 }, { name := "back", type := 161, offset := 1, embedded := false, tag := "", pkgPath := "runnel/nfa", byteOffset := 24 }, { name := "end", type := 3, offset := 2, embedded := false, tag := "", pkgPath := "runnel/nfa", byteOffset := 48 }], size := 3, bytes := 56, zero := .agg #[.slice none 0 0, .slice none 0 0, .int .i64 (0)] }
theorem tyOk162 : TyOk Try.prog 162 ty162 := ⟨Try.underlying162, by kernel_rfl⟩
def ty163 : TI := { u := .struct #[{ name := "out", type := 161, offset := 0, embedded := false, tag := "", pkgPath := "runnel/nfa", byteOffset := 0 }, { name := "back", type := 161, offset := 1, embedded := false, tag := "", pkgPath := "runnel/nfa", byteOffset := 24 }, { name := "end", type := 3, offset := 2, embedded := false, tag := "", pkgPath := "runnel/nfa", byteOffset := 48 }], size := 3, bytes := 56, zero := .agg #[.slice none 0 0, .slice none 0 0, .int .i64 (0)] }
theorem tyOk163 : TyOk Try.prog 163 ty163 := ⟨Try.underlying163, by kernel_rfl⟩
def ty164 : TI := { u := .func #[91, 3] #[3] false, size := 1, bytes := 8, zero := .nilFunc }
theorem tyOk164 : TyOk Try.prog 164 ty164 := ⟨Try.underlying164, by kernel_rfl⟩
def ty165 : TI := { u := .func #[80, 3, 3] #[] false, size := 1, bytes := 8, zero := .nilFunc }
theorem tyOk165 : TyOk Try.prog 165 ty165 := ⟨Try.underlying165, by kernel_rfl⟩
def ty166 : TI := { u := .func #[91, 3, 3] #[4] false, size := 1, bytes := 8, zero := .nilFunc }
theorem tyOk166 : TyOk Try.prog 166 ty166 := ⟨Try.underlying166, by kernel_rfl⟩
def ty167 : TI := { u := .func #[28, 23] #[4] false, size := 1, bytes := 8, zero := .nilFunc }
theorem tyOk167 : TyOk Try.prog 167 ty167 := ⟨Try.underlying167, by kernel_rfl⟩
def ty168 : TI := { u := .pointer 170, size := 1, bytes := 8, zero := .pointer none }
theorem tyOk168 : TyOk Try.prog 168 ty168 := ⟨Try.underlying168, by kernel_rfl⟩
def ty169 : TI := { u := .struct #[{ name := "addr", type := 168, offset := 0, embedded := false, tag := "", pkgPath := "strings", byteOffset := 0 }, { name := "buf", type := 44, offset := 1, embedded := false, tag := "", pkgPath := "strings", byteOffset := 8 }], size := 2, bytes := 32, zero := .agg #[.pointer none, .slice none 0 0] }
theorem tyOk169 : TyOk Try.prog 169 ty169 := ⟨Try.underlying169, by kernel_rfl⟩
def ty170 : TI := { u := .struct #[{ name := "addr", type := 168, offset := 0, embedded := false, tag := "", pkgPath := "strings", byteOffset := 0 }, { name := "buf", type := 44, offset := 1, embedded := false, tag := "", pkgPath := "strings", byteOffset := 8 }], size := 2, bytes := 32, zero := .agg #[.pointer none, .slice none 0 0] }
theorem tyOk170 : TyOk Try.prog 170 ty170 := ⟨Try.underlying170, by kernel_rfl⟩
def ty171 : TI := { u := .func #[9, 28, 3] #[9] false, size := 1, bytes := 8, zero := .nilFunc }
theorem tyOk171 : TyOk Try.prog 171 ty171 := ⟨Try.underlying171, by kernel_rfl⟩
def ty175 : TI := { u := .func #[9] #[3, 173] false, size := 1, bytes := 8, zero := .nilFunc }
theorem tyOk175 : TyOk Try.prog 175 ty175 := ⟨Try.underlying175, by kernel_rfl⟩
def ty176 : TI := { u := .func #[148] #[4] false, size := 1, bytes := 8, zero := .nilFunc }
theorem tyOk176 : TyOk Try.prog 176 ty176 := ⟨Try.underlying176, by kernel_rfl⟩
def ty178 : TI := { u := .func #[9, 3, 4, 4] #[148, 3] false, size := 1, bytes := 8, zero := .nilFunc }
theorem tyOk178 : TyOk Try.prog 178 ty178 := ⟨Try.underlying178, by kernel_rfl⟩
def ty179 : TI := { u := .func #[82, 3] #[23] false, size := 1, bytes := 8, zero := .nilFunc }
theorem tyOk179 : TyOk Try.prog 179 ty179 := ⟨Try.underlying179, by kernel_rfl⟩
def ty180 : TI := { u := .func #[3] #[23] false, size := 1, bytes := 8, zero := .nilFunc }
theorem tyOk180 : TyOk Try.prog 180 ty180 := ⟨Try.underlying180, by kernel_rfl⟩
def ty181 : TI := { u := .func #[] #[23] false, size := 1, bytes := 8, zero := .nilFunc }
theorem tyOk181 : TyOk Try.prog 181 ty181 := ⟨Try.underlying181, by kernel_rfl⟩
def ty182 : TI := { u := .func #[3, 3] #[23] false, size := 1, bytes := 8, zero := .nilFunc }
theorem tyOk182 : TyOk Try.prog 182 ty182 := ⟨Try.underlying182, by kernel_rfl⟩
def ty183 : TI := { u := .func #[91] #[3] false, size := 1, bytes := 8, zero := .nilFunc }
theorem tyOk183 : TyOk Try.prog 183 ty183 := ⟨Try.underlying183, by kernel_rfl⟩
def ty184 : TI := { u := .func #[91] #[4] false, size := 1, bytes := 8, zero := .nilFunc }
theorem tyOk184 : TyOk Try.prog 184 ty184 := ⟨Try.underlying184, by kernel_rfl⟩
def ty185 : TI := { u := .func #[89] #[4] false, size := 1, bytes := 8, zero := .nilFunc }
theorem tyOk185 : TyOk Try.prog 185 ty185 := ⟨Try.underlying185, by kernel_rfl⟩
def ty186 : TI := { u := .func #[3, 3] #[3] false, size := 1, bytes := 8, zero := .nilFunc }
theorem tyOk186 : TyOk Try.prog 186 ty186 := ⟨Try.underlying186, by kernel_rfl⟩
def ty187 : TI := { u := .pointer 98, size := 1, bytes := 8, zero := .pointer none }
theorem tyOk187 : TyOk Try.prog 187 ty187 := ⟨Try.underlying187, by kernel_rfl⟩
def ty188 : TI := { u := .func #[161, 190, 3, 4] #[159] false, size := 1, bytes := 8, zero := .nilFunc }
theorem tyOk188 : TyOk Try.prog 188 ty188 := ⟨Try.underlying188, by kernel_rfl⟩
def ty189 : TI := { u := .struct #[{ name := "state", type := 3, offset := 0, embedded := false, tag := "", pkgPath := "runnel/nfa", byteOffset := 0 }, { name := "at", type := 3, offset := 1, embedded := false, tag := "", pkgPath := "runnel/nfa", byteOffset := 8 }], size := 2, bytes := 16, zero := .agg #[.int .i64 (0), .int .i64 (0)] }
theorem tyOk189 : TyOk Try.prog 189 ty189 := ⟨Try.underlying189, by kernel_rfl⟩
def ty190 : TI := { u := .struct #[{ name := "state", type := 3, offset := 0, embedded := false, tag := "", pkgPath := "runnel/nfa", byteOffset := 0 }, { name := "at", type := 3, offset := 1, embedded := false, tag := "", pkgPath := "runnel/nfa", byteOffset := 8 }], size := 2, bytes := 16, zero := .agg #[.int .i64 (0), .int .i64 (0)] }
theorem tyOk190 : TyOk Try.prog 190 ty190 := ⟨Try.underlying190, by kernel_rfl⟩
def ty191 : TI := { u := .func #[3, 3, 79] #[3] false, size := 1, bytes := 8, zero := .nilFunc }
theorem tyOk191 : TyOk Try.prog 191 ty191 := ⟨Try.underlying191, by kernel_rfl⟩
def ty192 : TI := { u := .func #[3, 3, 3, 79] #[] false, size := 1, bytes := 8, zero := .nilFunc }
theorem tyOk192 : TyOk Try.prog 192 ty192 := ⟨Try.underlying192, by kernel_rfl⟩
def ty193 : TI := { u := .func #[79] #[79] false, size := 1, bytes := 8, zero := .nilFunc }
theorem tyOk193 : TyOk Try.prog 193 ty193 := ⟨Try.underlying193, by kernel_rfl⟩
def ty194 : TI := { u := .func #[80, 80, 3, 3] #[89] false, size := 1, bytes := 8, zero := .nilFunc }
theorem tyOk194 : TyOk Try.prog 194 ty194 := ⟨Try.underlying194, by kernel_rfl⟩
def ty195 : TI := { u := .func #[91, 3] #[82] false, size := 1, bytes := 8, zero := .nilFunc }
theorem tyOk195 : TyOk Try.prog 195 ty195 := ⟨Try.underlying195, by kernel_rfl⟩
def ty196 : TI := { u := .slice 203, size := 1, bytes := 24, zero := .slice none 0 0 }
theorem tyOk196 : TyOk Try.prog 196 ty196 := ⟨Try.underlying196, by kernel_rfl⟩
def ty197 : TI := { u := .pointer 199, size := 1, bytes := 8, zero := .pointer none }
theorem tyOk197 : TyOk Try.prog 197 ty197 := ⟨Try.underlying197, by kernel_rfl⟩
def ty198 : TI := { u := .struct #[{ name := "r", type := 91, offset := 0, embedded := false, tag := "", pkgPath := "runnel/backmatch", byteOffset := 0 }, { name := "k", type := 3, offset := 1, embedded := false, tag := "", pkgPath := "runnel/backmatch", byteOffset := 8 }, { name := "i", type := 3, offset := 2, embedded := false, tag := "", pkgPath := "runnel/backmatch", byteOffset := 16 }, { name := "j", type := 3, offset := 3, embedded := false, tag := "", pkgPath := "runnel/backmatch", byteOffset := 24 }, { name := "next", type := 197, offset := 4, embedded := false, tag := "", pkgPath := "runnel/backmatch", byteOffset := 32 }], size := 5, bytes := 40, zero := .agg #[.pointer none, .int .i64 (0), .int .i64 (0), .int .i64 (0), .pointer none] }
theorem tyOk198 : TyOk Try.prog 198 ty198 := ⟨Try.underlying198, by kernel_rfl⟩
def ty199 : TI := { u := .struct #[{ name := "r", type := 91, offset := 0, embedded := false, tag := "", pkgPath := "runnel/backmatch", byteOffset := 0 }, { name := "k", type := 3, offset := 1, embedded := false, tag := "", pkgPath := "runnel/backmatch", byteOffset := 8 }, { name := "i", type := 3, offset := 2, embedded := false, tag := "", pkgPath := "runnel/backmatch", byteOffset := 16 }, { name := "j", type := 3, offset := 3, embedded := false, tag := "", pkgPath := "runnel/backmatch", byteOffset := 24 }, { name := "next", type := 197, offset := 4, embedded := false, tag := "", pkgPath := "runnel/backmatch", byteOffset := 32 }], size := 5, bytes := 40, zero := .agg #[.pointer none, .int .i64 (0), .int .i64 (0), .int .i64 (0), .pointer none] }
theorem tyOk199 : TyOk Try.prog 199 ty199 := ⟨Try.underlying199, by kernel_rfl⟩
def ty200 : TI := { u := .func #[197] #[89, 4] false, size := 1, bytes := 8, zero := .nilFunc }
theorem tyOk200 : TyOk Try.prog 200 ty200 := ⟨Try.underlying200, by kernel_rfl⟩
def ty201 : TI := { u := .func #[197] #[4] false, size := 1, bytes := 8, zero := .nilFunc }
theorem tyOk201 : TyOk Try.prog 201 ty201 := ⟨Try.underlying201, by kernel_rfl⟩
def ty202 : TI := { u := .struct #[{ name := "task", type := 197, offset := 0, embedded := false, tag := "", pkgPath := "runnel/backmatch", byteOffset := 0 }, { name := "ends", type := 89, offset := 1, embedded := false, tag := "", pkgPath := "runnel/backmatch", byteOffset := 8 }, { name := "spans", type := 28, offset := 2, embedded := false, tag := "", pkgPath := "runnel/backmatch", byteOffset := 32 }], size := 3, bytes := 56, zero := .agg #[.pointer none, .slice none 0 0, .slice none 0 0] }
theorem tyOk202 : TyOk Try.prog 202 ty202 := ⟨Try.underlying202, by kernel_rfl⟩
def ty203 : TI := { u := .struct #[{ name := "task", type := 197, offset := 0, embedded := false, tag := "", pkgPath := "runnel/backmatch", byteOffset := 0 }, { name := "ends", type := 89, offset := 1, embedded := false, tag := "", pkgPath := "runnel/backmatch", byteOffset := 8 }, { name := "spans", type := 28, offset := 2, embedded := false, tag := "", pkgPath := "runnel/backmatch", byteOffset := 32 }], size := 3, bytes := 56, zero := .agg #[.pointer none, .slice none 0 0, .slice none 0 0] }
theorem tyOk203 : TyOk Try.prog 203 ty203 := ⟨Try.underlying203, by kernel_rfl⟩
def ty204 : TI := { u := .func #[197, 3] #[197] false, size := 1, bytes := 8, zero := .nilFunc }
theorem tyOk204 : TyOk Try.prog 204 ty204 := ⟨Try.underlying204, by kernel_rfl⟩
def ty205 : TI := { u := .pointer 203, size := 1, bytes := 8, zero := .pointer none }
theorem tyOk205 : TyOk Try.prog 205 ty205 := ⟨Try.underlying205, by kernel_rfl⟩
def ty206 : TI := { u := .pointer 5, size := 1, bytes := 8, zero := .pointer none }
theorem tyOk206 : TyOk Try.prog 206 ty206 := ⟨Try.underlying206, by kernel_rfl⟩
def ty207 : TI := { u := .func #[9, 3, 4] #[148, 3] false, size := 1, bytes := 8, zero := .nilFunc }
theorem tyOk207 : TyOk Try.prog 207 ty207 := ⟨Try.underlying207, by kernel_rfl⟩
def ty209 : TI := { u := .func #[9, 3] #[79, 3, 23] false, size := 1, bytes := 8, zero := .nilFunc }
theorem tyOk209 : TyOk Try.prog 209 ty209 := ⟨Try.underlying209, by kernel_rfl⟩
def ty210 : TI := { u := .func #[3, 23] #[148] false, size := 1, bytes := 8, zero := .nilFunc }
theorem tyOk210 : TyOk Try.prog 210 ty210 := ⟨Try.underlying210, by kernel_rfl⟩
def ty211 : TI := { u := .func #[3, 5] #[148] false, size := 1, bytes := 8, zero := .nilFunc }
theorem tyOk211 : TyOk Try.prog 211 ty211 := ⟨Try.underlying211, by kernel_rfl⟩
def ty212 : TI := { u := .slice 190, size := 1, bytes := 24, zero := .slice none 0 0 }
theorem tyOk212 : TyOk Try.prog 212 ty212 := ⟨Try.underlying212, by kernel_rfl⟩
def ty213 : TI := { u := .slice 215, size := 1, bytes := 24, zero := .slice none 0 0 }
theorem tyOk213 : TyOk Try.prog 213 ty213 := ⟨Try.underlying213, by kernel_rfl⟩
def ty214 : TI := { u := .struct #[{ name := "kind", type := 3, offset := 0, embedded := false, tag := "", pkgPath := "runnel/nfa", byteOffset := 0 }, { name := "set", type := 79, offset := 1, embedded := false, tag := "", pkgPath := "runnel/nfa", byteOffset := 8 }, { name := "to", type := 3, offset := 5, embedded := false, tag := "", pkgPath := "runnel/nfa", byteOffset := 40 }], size := 6, bytes := 48, zero := .agg #[.int .i64 (0), .int .u64 (0), .int .u64 (0), .int .u64 (0), .int .u64 (0), .int .i64 (0)] }
theorem tyOk214 : TyOk Try.prog 214 ty214 := ⟨Try.underlying214, by kernel_rfl⟩
def ty215 : TI := { u := .struct #[{ name := "kind", type := 3, offset := 0, embedded := false, tag := "", pkgPath := "runnel/nfa", byteOffset := 0 }, { name := "set", type := 79, offset := 1, embedded := false, tag := "", pkgPath := "runnel/nfa", byteOffset := 8 }, { name := "to", type := 3, offset := 5, embedded := false, tag := "", pkgPath := "runnel/nfa", byteOffset := 40 }], size := 6, bytes := 48, zero := .agg #[.int .i64 (0), .int .u64 (0), .int .u64 (0), .int .u64 (0), .int .u64 (0), .int .i64 (0)] }
theorem tyOk215 : TyOk Try.prog 215 ty215 := ⟨Try.underlying215, by kernel_rfl⟩
def ty216 : TI := { u := .func #[79, 79, 217] #[79] false, size := 1, bytes := 8, zero := .nilFunc }
theorem tyOk216 : TyOk Try.prog 216 ty216 := ⟨Try.underlying216, by kernel_rfl⟩
def ty217 : TI := { u := .func #[77, 77] #[77] false, size := 1, bytes := 8, zero := .nilFunc }
theorem tyOk217 : TyOk Try.prog 217 ty217 := ⟨Try.underlying217, by kernel_rfl⟩
def ty218 : TI := { u := .func #[220, 80, 80] #[89] false, size := 1, bytes := 8, zero := .nilFunc }
theorem tyOk218 : TyOk Try.prog 218 ty218 := ⟨Try.underlying218, by kernel_rfl⟩
def ty219 : TI := { u := .struct #[{ name := "r", type := 91, offset := 0, embedded := false, tag := "", pkgPath := "runnel/backmatch", byteOffset := 0 }, { name := "k", type := 3, offset := 1, embedded := false, tag := "", pkgPath := "runnel/backmatch", byteOffset := 8 }, { name := "i", type := 3, offset := 2, embedded := false, tag := "", pkgPath := "runnel/backmatch", byteOffset := 16 }, { name := "j", type := 3, offset := 3, embedded := false, tag := "", pkgPath := "runnel/backmatch", byteOffset := 24 }], size := 4, bytes := 32, zero := .agg #[.pointer none, .int .i64 (0), .int .i64 (0), .int .i64 (0)] }
theorem tyOk219 : TyOk Try.prog 219 ty219 := ⟨Try.underlying219, by kernel_rfl⟩
def ty220 : TI := { u := .struct #[{ name := "r", type := 91, offset := 0, embedded := false, tag := "", pkgPath := "runnel/backmatch", byteOffset := 0 }, { name := "k", type := 3, offset := 1, embedded := false, tag := "", pkgPath := "runnel/backmatch", byteOffset := 8 }, { name := "i", type := 3, offset := 2, embedded := false, tag := "", pkgPath := "runnel/backmatch", byteOffset := 16 }, { name := "j", type := 3, offset := 3, embedded := false, tag := "", pkgPath := "runnel/backmatch", byteOffset := 24 }], size := 4, bytes := 32, zero := .agg #[.pointer none, .int .i64 (0), .int .i64 (0), .int .i64 (0)] }
theorem tyOk220 : TyOk Try.prog 220 ty220 := ⟨Try.underlying220, by kernel_rfl⟩
def ty221 : TI := { u := .unsafePointer, size := 1, bytes := 8, zero := .pointer none }
theorem tyOk221 : TyOk Try.prog 221 ty221 := ⟨Try.underlying221, by kernel_rfl⟩
def ty222 : TI := { u := .func #[221] #[221] false, size := 1, bytes := 8, zero := .nilFunc }
theorem tyOk222 : TyOk Try.prog 222 ty222 := ⟨Try.underlying222, by kernel_rfl⟩
def ty224 : TI := { u := .func #[9, 3] #[3, 3, 3, 4] false, size := 1, bytes := 8, zero := .nilFunc }
theorem tyOk224 : TyOk Try.prog 224 ty224 := ⟨Try.underlying224, by kernel_rfl⟩
def ty225 : TI := { u := .pointer 227, size := 1, bytes := 8, zero := .pointer none }
theorem tyOk225 : TyOk Try.prog 225 ty225 := ⟨Try.underlying225, by kernel_rfl⟩
def ty226 : TI := { u := .struct #[{ name := "text", type := 9, offset := 0, embedded := false, tag := "", pkgPath := "runnel/bracket", byteOffset := 0 }, { name := "at", type := 3, offset := 1, embedded := false, tag := "", pkgPath := "runnel/bracket", byteOffset := 16 }, { name := "e", type := 23, offset := 2, embedded := false, tag := "", pkgPath := "runnel/bracket", byteOffset := 24 }], size := 3, bytes := 32, zero := .agg #[.string ⟨#[]⟩, .int .i64 (0), .int .i64 (0)] }
theorem tyOk226 : TyOk Try.prog 226 ty226 := ⟨Try.underlying226, by kernel_rfl⟩
def ty227 : TI := { u := .struct #[{ name := "text", type := 9, offset := 0, embedded := false, tag := "", pkgPath := "runnel/bracket", byteOffset := 0 }, { name := "at", type := 3, offset := 1, embedded := false, tag := "", pkgPath := "runnel/bracket", byteOffset := 16 }, { name := "e", type := 23, offset := 2, embedded := false, tag := "", pkgPath := "runnel/bracket", byteOffset := 24 }], size := 3, bytes := 32, zero := .agg #[.string ⟨#[]⟩, .int .i64 (0), .int .i64 (0)] }
theorem tyOk227 : TyOk Try.prog 227 ty227 := ⟨Try.underlying227, by kernel_rfl⟩
def ty228 : TI := { u := .func #[79, 79] #[79] false, size := 1, bytes := 8, zero := .nilFunc }
theorem tyOk228 : TyOk Try.prog 228 ty228 := ⟨Try.underlying228, by kernel_rfl⟩
def ty229 : TI := { u := .func #[] #[79] false, size := 1, bytes := 8, zero := .nilFunc }
theorem tyOk229 : TyOk Try.prog 229 ty229 := ⟨Try.underlying229, by kernel_rfl⟩
def ty230 : TI := { u := .func #[9] #[79] false, size := 1, bytes := 8, zero := .nilFunc }
theorem tyOk230 : TyOk Try.prog 230 ty230 := ⟨Try.underlying230, by kernel_rfl⟩
def ty232 : TI := { u := .func #[9, 3] #[3, 3] false, size := 1, bytes := 8, zero := .nilFunc }
theorem tyOk232 : TyOk Try.prog 232 ty232 := ⟨Try.underlying232, by kernel_rfl⟩
def ty234 : TI := { u := .func #[] #[79, 5, 4] false, size := 1, bytes := 8, zero := .nilFunc }
theorem tyOk234 : TyOk Try.prog 234 ty234 := ⟨Try.underlying234, by kernel_rfl⟩
def ty236 : TI := { u := .func #[5, 5] #[79, 23] false, size := 1, bytes := 8, zero := .nilFunc }
theorem tyOk236 : TyOk Try.prog 236 ty236 := ⟨Try.underlying236, by kernel_rfl⟩
def ty237 : TI := { u := .func #[238, 5] #[] false, size := 1, bytes := 8, zero := .nilFunc }
theorem tyOk237 : TyOk Try.prog 237 ty237 := ⟨Try.underlying237, by kernel_rfl⟩
def ty238 : TI := { u := .pointer 79, size := 1, bytes := 8, zero := .pointer none }
theorem tyOk238 : TyOk Try.prog 238 ty238 := ⟨Try.underlying238, by kernel_rfl⟩
def ty239 : TI := { u := .func #[9, 5] #[3] false, size := 1, bytes := 8, zero := .nilFunc }
theorem tyOk239 : TyOk Try.prog 239 ty239 := ⟨Try.underlying239, by kernel_rfl⟩
def ty241 : TI := { u := .func #[] #[9, 5] false, size := 1, bytes := 8, zero := .nilFunc }
theorem tyOk241 : TyOk Try.prog 241 ty241 := ⟨Try.underlying241, by kernel_rfl⟩
def ty242 : TI := { u := .func #[9] #[79, 23] false, size := 1, bytes := 8, zero := .nilFunc }
theorem tyOk242 : TyOk Try.prog 242 ty242 := ⟨Try.underlying242, by kernel_rfl⟩
def ty243 : TI := { u := .func #[9, 9] #[3] false, size := 1, bytes := 8, zero := .nilFunc }
theorem tyOk243 : TyOk Try.prog 243 ty243 := ⟨Try.underlying243, by kernel_rfl⟩
def ty245 : TI := { u := .func #[9, 5] #[4, 4] false, size := 1, bytes := 8, zero := .nilFunc }
theorem tyOk245 : TyOk Try.prog 245 ty245 := ⟨Try.underlying245, by kernel_rfl⟩
def ty246 : TI := { u := .func #[3] #[3] false, size := 1, bytes := 8, zero := .nilFunc }
theorem tyOk246 : TyOk Try.prog 246 ty246 := ⟨Try.underlying246, by kernel_rfl⟩
def ty247 : TI := { u := .int .u64, size := 1, bytes := 8, zero := .int .u64 (0) }
theorem tyOk247 : TyOk Try.prog 247 ty247 := ⟨Try.underlying247, by kernel_rfl⟩
def ty248 : TI := { u := .int .u32, size := 1, bytes := 4, zero := .int .u32 (0) }
theorem tyOk248 : TyOk Try.prog 248 ty248 := ⟨Try.underlying248, by kernel_rfl⟩
def ty250 : TI := { u := .func #[9] #[248, 248] false, size := 1, bytes := 8, zero := .nilFunc }
theorem tyOk250 : TyOk Try.prog 250 ty250 := ⟨Try.underlying250, by kernel_rfl⟩
def ty258 : TI := { u := .func #[221, 221] #[4] false, size := 1, bytes := 8, zero := .nilFunc }
theorem tyOk258 : TyOk Try.prog 258 ty258 := ⟨Try.underlying258, by kernel_rfl⟩
def TTl : List (Nat × TI) := [(1, ty1), (2, ty2), (3, ty3), (4, ty4), (5, ty5), (9, ty9), (12, ty12), (21, ty21), (22, ty22), (23, ty23), (25, ty25), (26, ty26), (27, ty27), (28, ty28), (30, ty30), (31, ty31), (32, ty32), (33, ty33), (34, ty34), (36, ty36), (37, ty37), (38, ty38), (39, ty39), (40, ty40), (41, ty41), (42, ty42), (43, ty43), (44, ty44), (45, ty45), (47, ty47), (48, ty48), (50, ty50), (51, ty51), (53, ty53), (54, ty54), (55, ty55), (56, ty56), (57, ty57), (58, ty58), (59, ty59), (60, ty60), (62, ty62), (63, ty63), (64, ty64), (65, ty65), (66, ty66), (67, ty67), (69, ty69), (70, ty70), (71, ty71), (72, ty72), (73, ty73), (74, ty74), (76, ty76), (77, ty77), (78, ty78), (79, ty79), (80, ty80), (81, ty81), (82, ty82), (84, ty84), (85, ty85), (86, ty86), (87, ty87), (88, ty88), (89, ty89), (90, ty90), (91, ty91), (92, ty92), (93, ty93), (95, ty95), (96, ty96), (97, ty97), (98, ty98), (99, ty99), (100, ty100), (102, ty102), (103, ty103), (104, ty104), (105, ty105), (106, ty106), (107, ty107), (108, ty108), (109, ty109), (110, ty110), (111, ty111), (112, ty112), (113, ty113), (114, ty114), (115, ty115), (116, ty116), (117, ty117), (118, ty118), (119, ty119), (121, ty121), (122, ty122), (123, ty123), (124, ty124), (125, ty125), (126, ty126), (127, ty127), (129, ty129), (130, ty130), (131, ty131), (132, ty132), (133, ty133), (135, ty135), (136, ty136), (137, ty137), (138, ty138), (139, ty139), (140, ty140), (141, ty141), (142, ty142), (143, ty143), (144, ty144), (145, ty145), (146, ty146), (147, ty147), (148, ty148), (149, ty149), (150, ty150), (151, ty151), (152, ty152), (153, ty153), (155, ty155), (156, ty156), (157, ty157), (158, ty158), (159, ty159), (160, ty160), (161, ty161), (162, ty162), (163, ty163), (164, ty164), (165, ty165), (166, ty166), (167, ty167), (168, ty168), (169, ty169), (170, ty170), (171, ty171), (175, ty175), (176, ty176), (178, ty178), (179, ty179), (180, ty180), (181, ty181), (182, ty182), (183, ty183), (184, ty184), (185, ty185), (186, ty186), (187, ty187), (188, ty188), (189, ty189), (190, ty190), (191, ty191), (192, ty192), (193, ty193), (194, ty194), (195, ty195), (196, ty196), (197, ty197), (198, ty198), (199, ty199), (200, ty200), (201, ty201), (202, ty202), (203, ty203), (204, ty204), (205, ty205), (206, ty206), (207, ty207), (209, ty209), (210, ty210), (211, ty211), (212, ty212), (213, ty213), (214, ty214), (215, ty215), (216, ty216), (217, ty217), (218, ty218), (219, ty219), (220, ty220), (221, ty221), (222, ty222), (224, ty224), (225, ty225), (226, ty226), (227, ty227), (228, ty228), (229, ty229), (230, ty230), (232, ty232), (234, ty234), (236, ty236), (237, ty237), (238, ty238), (239, ty239), (241, ty241), (242, ty242), (243, ty243), (245, ty245), (246, ty246), (247, ty247), (248, ty248), (250, ty250), (258, ty258)]
def TB : TyTab Try.prog := tabOf TTl ⟨tyOk1, tyOk2, tyOk3, tyOk4, tyOk5, tyOk9, tyOk12, tyOk21, tyOk22, tyOk23, tyOk25, tyOk26, tyOk27, tyOk28, tyOk30, tyOk31, tyOk32, tyOk33, tyOk34, tyOk36, tyOk37, tyOk38, tyOk39, tyOk40, tyOk41, tyOk42, tyOk43, tyOk44, tyOk45, tyOk47, tyOk48, tyOk50, tyOk51, tyOk53, tyOk54, tyOk55, tyOk56, tyOk57, tyOk58, tyOk59, tyOk60, tyOk62, tyOk63, tyOk64, tyOk65, tyOk66, tyOk67, tyOk69, tyOk70, tyOk71, tyOk72, tyOk73, tyOk74, tyOk76, tyOk77, tyOk78, tyOk79, tyOk80, tyOk81, tyOk82, tyOk84, tyOk85, tyOk86, tyOk87, tyOk88, tyOk89, tyOk90, tyOk91, tyOk92, tyOk93, tyOk95, tyOk96, tyOk97, tyOk98, tyOk99, tyOk100, tyOk102, tyOk103, tyOk104, tyOk105, tyOk106, tyOk107, tyOk108, tyOk109, tyOk110, tyOk111, tyOk112, tyOk113, tyOk114, tyOk115, tyOk116, tyOk117, tyOk118, tyOk119, tyOk121, tyOk122, tyOk123, tyOk124, tyOk125, tyOk126, tyOk127, tyOk129, tyOk130, tyOk131, tyOk132, tyOk133, tyOk135, tyOk136, tyOk137, tyOk138, tyOk139, tyOk140, tyOk141, tyOk142, tyOk143, tyOk144, tyOk145, tyOk146, tyOk147, tyOk148, tyOk149, tyOk150, tyOk151, tyOk152, tyOk153, tyOk155, tyOk156, tyOk157, tyOk158, tyOk159, tyOk160, tyOk161, tyOk162, tyOk163, tyOk164, tyOk165, tyOk166, tyOk167, tyOk168, tyOk169, tyOk170, tyOk171, tyOk175, tyOk176, tyOk178, tyOk179, tyOk180, tyOk181, tyOk182, tyOk183, tyOk184, tyOk185, tyOk186, tyOk187, tyOk188, tyOk189, tyOk190, tyOk191, tyOk192, tyOk193, tyOk194, tyOk195, tyOk196, tyOk197, tyOk198, tyOk199, tyOk200, tyOk201, tyOk202, tyOk203, tyOk204, tyOk205, tyOk206, tyOk207, tyOk209, tyOk210, tyOk211, tyOk212, tyOk213, tyOk214, tyOk215, tyOk216, tyOk217, tyOk218, tyOk219, tyOk220, tyOk221, tyOk222, tyOk224, tyOk225, tyOk226, tyOk227, tyOk228, tyOk229, tyOk230, tyOk232, tyOk234, tyOk236, tyOk237, tyOk238, tyOk239, tyOk241, tyOk242, tyOk243, tyOk245, tyOk246, tyOk247, tyOk248, tyOk250, tyOk258, trivial⟩
theorem eqg32 : Try.prog.eqGuardType Try.prog.depth 32 = false := by kernel_rfl
theorem sth32 : Try.prog.stoodInHeld 32 = false := by kernel_rfl
theorem eqg33 : Try.prog.eqGuardType Try.prog.depth 33 = false := by kernel_rfl
theorem sth33 : Try.prog.stoodInHeld 33 = false := by kernel_rfl
theorem eqg54 : Try.prog.eqGuardType Try.prog.depth 54 = false := by kernel_rfl
theorem sth54 : Try.prog.stoodInHeld 54 = false := by kernel_rfl
theorem eqg55 : Try.prog.eqGuardType Try.prog.depth 55 = false := by kernel_rfl
theorem sth55 : Try.prog.stoodInHeld 55 = false := by kernel_rfl
theorem eqg57 : Try.prog.eqGuardType Try.prog.depth 57 = false := by kernel_rfl
theorem sth57 : Try.prog.stoodInHeld 57 = false := by kernel_rfl
theorem eqg58 : Try.prog.eqGuardType Try.prog.depth 58 = false := by kernel_rfl
theorem sth58 : Try.prog.stoodInHeld 58 = false := by kernel_rfl
theorem eqg60 : Try.prog.eqGuardType Try.prog.depth 60 = false := by kernel_rfl
theorem eqg66 : Try.prog.eqGuardType Try.prog.depth 66 = false := by kernel_rfl
theorem sth66 : Try.prog.stoodInHeld 66 = false := by kernel_rfl
theorem eqg67 : Try.prog.eqGuardType Try.prog.depth 67 = false := by kernel_rfl
theorem sth67 : Try.prog.stoodInHeld 67 = false := by kernel_rfl
theorem eqg72 : Try.prog.eqGuardType Try.prog.depth 72 = false := by kernel_rfl
theorem sth72 : Try.prog.stoodInHeld 72 = false := by kernel_rfl
theorem eqg73 : Try.prog.eqGuardType Try.prog.depth 73 = false := by kernel_rfl
theorem sth73 : Try.prog.stoodInHeld 73 = false := by kernel_rfl
theorem eqg78 : Try.prog.eqGuardType Try.prog.depth 78 = false := by kernel_rfl
theorem eqg79 : Try.prog.eqGuardType Try.prog.depth 79 = false := by kernel_rfl
theorem eqg81 : Try.prog.eqGuardType Try.prog.depth 81 = false := by kernel_rfl
theorem sth81 : Try.prog.stoodInHeld 81 = false := by kernel_rfl
theorem eqg82 : Try.prog.eqGuardType Try.prog.depth 82 = false := by kernel_rfl
theorem sth82 : Try.prog.stoodInHeld 82 = false := by kernel_rfl
theorem eqg87 : Try.prog.eqGuardType Try.prog.depth 87 = false := by kernel_rfl
theorem sth87 : Try.prog.stoodInHeld 87 = false := by kernel_rfl
theorem eqg88 : Try.prog.eqGuardType Try.prog.depth 88 = false := by kernel_rfl
theorem sth88 : Try.prog.stoodInHeld 88 = false := by kernel_rfl
theorem eqg92 : Try.prog.eqGuardType Try.prog.depth 92 = false := by kernel_rfl
theorem sth92 : Try.prog.stoodInHeld 92 = false := by kernel_rfl
theorem eqg93 : Try.prog.eqGuardType Try.prog.depth 93 = false := by kernel_rfl
theorem sth93 : Try.prog.stoodInHeld 93 = false := by kernel_rfl
theorem eqg97 : Try.prog.eqGuardType Try.prog.depth 97 = false := by kernel_rfl
theorem sth97 : Try.prog.stoodInHeld 97 = false := by kernel_rfl
theorem eqg98 : Try.prog.eqGuardType Try.prog.depth 98 = false := by kernel_rfl
theorem sth98 : Try.prog.stoodInHeld 98 = false := by kernel_rfl
theorem eqg99 : Try.prog.eqGuardType Try.prog.depth 99 = false := by kernel_rfl
theorem sth99 : Try.prog.stoodInHeld 99 = false := by kernel_rfl
theorem eqg100 : Try.prog.eqGuardType Try.prog.depth 100 = false := by kernel_rfl
theorem sth100 : Try.prog.stoodInHeld 100 = false := by kernel_rfl
theorem eqg108 : Try.prog.eqGuardType Try.prog.depth 108 = false := by kernel_rfl
theorem sth108 : Try.prog.stoodInHeld 108 = false := by kernel_rfl
theorem eqg109 : Try.prog.eqGuardType Try.prog.depth 109 = false := by kernel_rfl
theorem sth109 : Try.prog.stoodInHeld 109 = false := by kernel_rfl
theorem eqg111 : Try.prog.eqGuardType Try.prog.depth 111 = false := by kernel_rfl
theorem sth111 : Try.prog.stoodInHeld 111 = false := by kernel_rfl
theorem eqg112 : Try.prog.eqGuardType Try.prog.depth 112 = false := by kernel_rfl
theorem sth112 : Try.prog.stoodInHeld 112 = false := by kernel_rfl
theorem eqg118 : Try.prog.eqGuardType Try.prog.depth 118 = false := by kernel_rfl
theorem sth118 : Try.prog.stoodInHeld 118 = false := by kernel_rfl
theorem eqg119 : Try.prog.eqGuardType Try.prog.depth 119 = false := by kernel_rfl
theorem sth119 : Try.prog.stoodInHeld 119 = false := by kernel_rfl
theorem eqg122 : Try.prog.eqGuardType Try.prog.depth 122 = false := by kernel_rfl
theorem sth122 : Try.prog.stoodInHeld 122 = false := by kernel_rfl
theorem eqg123 : Try.prog.eqGuardType Try.prog.depth 123 = false := by kernel_rfl
theorem sth123 : Try.prog.stoodInHeld 123 = false := by kernel_rfl
theorem eqg125 : Try.prog.eqGuardType Try.prog.depth 125 = false := by kernel_rfl
theorem sth125 : Try.prog.stoodInHeld 125 = false := by kernel_rfl
theorem eqg126 : Try.prog.eqGuardType Try.prog.depth 126 = false := by kernel_rfl
theorem sth126 : Try.prog.stoodInHeld 126 = false := by kernel_rfl
theorem eqg132 : Try.prog.eqGuardType Try.prog.depth 132 = false := by kernel_rfl
theorem sth132 : Try.prog.stoodInHeld 132 = false := by kernel_rfl
theorem eqg133 : Try.prog.eqGuardType Try.prog.depth 133 = false := by kernel_rfl
theorem sth133 : Try.prog.stoodInHeld 133 = false := by kernel_rfl
theorem eqg138 : Try.prog.eqGuardType Try.prog.depth 138 = false := by kernel_rfl
theorem sth138 : Try.prog.stoodInHeld 138 = false := by kernel_rfl
theorem eqg139 : Try.prog.eqGuardType Try.prog.depth 139 = false := by kernel_rfl
theorem sth139 : Try.prog.stoodInHeld 139 = false := by kernel_rfl
theorem eqg141 : Try.prog.eqGuardType Try.prog.depth 141 = false := by kernel_rfl
theorem eqg142 : Try.prog.eqGuardType Try.prog.depth 142 = false := by kernel_rfl
theorem sth142 : Try.prog.stoodInHeld 142 = false := by kernel_rfl
theorem eqg143 : Try.prog.eqGuardType Try.prog.depth 143 = false := by kernel_rfl
theorem sth143 : Try.prog.stoodInHeld 143 = false := by kernel_rfl
theorem eqg147 : Try.prog.eqGuardType Try.prog.depth 147 = false := by kernel_rfl
theorem sth147 : Try.prog.stoodInHeld 147 = false := by kernel_rfl
theorem eqg148 : Try.prog.eqGuardType Try.prog.depth 148 = false := by kernel_rfl
theorem sth148 : Try.prog.stoodInHeld 148 = false := by kernel_rfl
theorem eqg152 : Try.prog.eqGuardType Try.prog.depth 152 = false := by kernel_rfl
theorem sth152 : Try.prog.stoodInHeld 152 = false := by kernel_rfl
theorem eqg153 : Try.prog.eqGuardType Try.prog.depth 153 = false := by kernel_rfl
theorem sth153 : Try.prog.stoodInHeld 153 = false := by kernel_rfl
theorem eqg162 : Try.prog.eqGuardType Try.prog.depth 162 = false := by kernel_rfl
theorem sth162 : Try.prog.stoodInHeld 162 = false := by kernel_rfl
theorem eqg163 : Try.prog.eqGuardType Try.prog.depth 163 = false := by kernel_rfl
theorem sth163 : Try.prog.stoodInHeld 163 = false := by kernel_rfl
theorem eqg169 : Try.prog.eqGuardType Try.prog.depth 169 = false := by kernel_rfl
theorem sth169 : Try.prog.stoodInHeld 169 = false := by kernel_rfl
theorem eqg170 : Try.prog.eqGuardType Try.prog.depth 170 = false := by kernel_rfl
theorem sth170 : Try.prog.stoodInHeld 170 = false := by kernel_rfl
theorem eqg189 : Try.prog.eqGuardType Try.prog.depth 189 = false := by kernel_rfl
theorem sth189 : Try.prog.stoodInHeld 189 = false := by kernel_rfl
theorem eqg190 : Try.prog.eqGuardType Try.prog.depth 190 = false := by kernel_rfl
theorem sth190 : Try.prog.stoodInHeld 190 = false := by kernel_rfl
theorem eqg198 : Try.prog.eqGuardType Try.prog.depth 198 = false := by kernel_rfl
theorem sth198 : Try.prog.stoodInHeld 198 = false := by kernel_rfl
theorem eqg199 : Try.prog.eqGuardType Try.prog.depth 199 = false := by kernel_rfl
theorem sth199 : Try.prog.stoodInHeld 199 = false := by kernel_rfl
theorem eqg202 : Try.prog.eqGuardType Try.prog.depth 202 = false := by kernel_rfl
theorem sth202 : Try.prog.stoodInHeld 202 = false := by kernel_rfl
theorem eqg203 : Try.prog.eqGuardType Try.prog.depth 203 = false := by kernel_rfl
theorem sth203 : Try.prog.stoodInHeld 203 = false := by kernel_rfl
theorem eqg214 : Try.prog.eqGuardType Try.prog.depth 214 = false := by kernel_rfl
theorem sth214 : Try.prog.stoodInHeld 214 = false := by kernel_rfl
theorem eqg215 : Try.prog.eqGuardType Try.prog.depth 215 = false := by kernel_rfl
theorem sth215 : Try.prog.stoodInHeld 215 = false := by kernel_rfl
theorem eqg219 : Try.prog.eqGuardType Try.prog.depth 219 = false := by kernel_rfl
theorem sth219 : Try.prog.stoodInHeld 219 = false := by kernel_rfl
theorem eqg220 : Try.prog.eqGuardType Try.prog.depth 220 = false := by kernel_rfl
theorem sth220 : Try.prog.stoodInHeld 220 = false := by kernel_rfl
theorem eqg226 : Try.prog.eqGuardType Try.prog.depth 226 = false := by kernel_rfl
theorem sth226 : Try.prog.stoodInHeld 226 = false := by kernel_rfl
theorem eqg227 : Try.prog.eqGuardType Try.prog.depth 227 = false := by kernel_rfl
theorem sth227 : Try.prog.stoodInHeld 227 = false := by kernel_rfl
theorem mixed : Try.prog.follows .mixedOrders = true := Try.checked.mixed
theorem ent3 : Enters Try.prog 3 := enters_of Try.func3 (by kernel_rfl) rfl
theorem ent4 : Enters Try.prog 4 := enters_of Try.func4 (by kernel_rfl) rfl
theorem ent5 : Enters Try.prog 5 := enters_of Try.func5 (by kernel_rfl) rfl
theorem ent6 : Enters Try.prog 6 := enters_of Try.func6 (by kernel_rfl) rfl
theorem ent7 : Enters Try.prog 7 := enters_of Try.func7 (by kernel_rfl) rfl
theorem ent8 : Enters Try.prog 8 := enters_of Try.func8 (by kernel_rfl) rfl
theorem ent9 : Enters Try.prog 9 := enters_of Try.func9 (by kernel_rfl) rfl
theorem ent10 : Enters Try.prog 10 := enters_of Try.func10 (by kernel_rfl) rfl
theorem ent11 : Enters Try.prog 11 := enters_of Try.func11 (by kernel_rfl) rfl
theorem ent12 : Enters Try.prog 12 := enters_of Try.func12 (by kernel_rfl) rfl
theorem ent13 : Enters Try.prog 13 := enters_of Try.func13 (by kernel_rfl) rfl
theorem ent14 : Enters Try.prog 14 := enters_of Try.func14 (by kernel_rfl) rfl
theorem ent15 : Enters Try.prog 15 := enters_of Try.func15 (by kernel_rfl) rfl
theorem ent16 : Enters Try.prog 16 := enters_of Try.func16 (by kernel_rfl) rfl
theorem ent17 : Enters Try.prog 17 := enters_of Try.func17 (by kernel_rfl) rfl
theorem ent18 : Enters Try.prog 18 := enters_of Try.func18 (by kernel_rfl) rfl
theorem ent19 : Enters Try.prog 19 := enters_of Try.func19 (by kernel_rfl) rfl
theorem ent20 : Enters Try.prog 20 := enters_of Try.func20 (by kernel_rfl) rfl
theorem ent21 : Enters Try.prog 21 := enters_of Try.func21 (by kernel_rfl) rfl
theorem ent22 : Enters Try.prog 22 := enters_of Try.func22 (by kernel_rfl) rfl
theorem ent23 : Enters Try.prog 23 := enters_of Try.func23 (by kernel_rfl) rfl
theorem ent24 : Enters Try.prog 24 := enters_of Try.func24 (by kernel_rfl) rfl
theorem ent25 : Enters Try.prog 25 := enters_of Try.func25 (by kernel_rfl) rfl
theorem ent26 : Enters Try.prog 26 := enters_of Try.func26 (by kernel_rfl) rfl
theorem ent27 : Enters Try.prog 27 := enters_of Try.func27 (by kernel_rfl) rfl
theorem ent28 : Enters Try.prog 28 := enters_of Try.func28 (by kernel_rfl) rfl
theorem ent29 : Enters Try.prog 29 := enters_of Try.func29 (by kernel_rfl) rfl
theorem ent30 : Enters Try.prog 30 := enters_of Try.func30 (by kernel_rfl) rfl
theorem ent31 : Enters Try.prog 31 := enters_of Try.func31 (by kernel_rfl) rfl
theorem ent32 : Enters Try.prog 32 := enters_of Try.func32 (by kernel_rfl) rfl
theorem ent33 : Enters Try.prog 33 := enters_of Try.func33 (by kernel_rfl) rfl
theorem ent34 : Enters Try.prog 34 := enters_of Try.func34 (by kernel_rfl) rfl
theorem ent35 : Enters Try.prog 35 := enters_of Try.func35 (by kernel_rfl) rfl
theorem ent36 : Enters Try.prog 36 := enters_of Try.func36 (by kernel_rfl) rfl
theorem ent37 : Enters Try.prog 37 := enters_of Try.func37 (by kernel_rfl) rfl
theorem ent38 : Enters Try.prog 38 := enters_of Try.func38 (by kernel_rfl) rfl
theorem ent39 : Enters Try.prog 39 := enters_of Try.func39 (by kernel_rfl) rfl
theorem ent40 : Enters Try.prog 40 := enters_of Try.func40 (by kernel_rfl) rfl
theorem ent41 : Enters Try.prog 41 := enters_of Try.func41 (by kernel_rfl) rfl
theorem ent42 : Enters Try.prog 42 := enters_of Try.func42 (by kernel_rfl) rfl
theorem ent43 : Enters Try.prog 43 := enters_of Try.func43 (by kernel_rfl) rfl
theorem ent44 : Enters Try.prog 44 := enters_of Try.func44 (by kernel_rfl) rfl
theorem ent45 : Enters Try.prog 45 := enters_of Try.func45 (by kernel_rfl) rfl
theorem ent46 : Enters Try.prog 46 := enters_of Try.func46 (by kernel_rfl) rfl
theorem ent47 : Enters Try.prog 47 := enters_of Try.func47 (by kernel_rfl) rfl
theorem ent48 : Enters Try.prog 48 := enters_of Try.func48 (by kernel_rfl) rfl
theorem ent49 : Enters Try.prog 49 := enters_of Try.func49 (by kernel_rfl) rfl
theorem ent50 : Enters Try.prog 50 := enters_of Try.func50 (by kernel_rfl) rfl
theorem ent51 : Enters Try.prog 51 := enters_of Try.func51 (by kernel_rfl) rfl
theorem ent52 : Enters Try.prog 52 := enters_of Try.func52 (by kernel_rfl) rfl
theorem ent53 : Enters Try.prog 53 := enters_of Try.func53 (by kernel_rfl) rfl
theorem ent54 : Enters Try.prog 54 := enters_of Try.func54 (by kernel_rfl) rfl
theorem ent55 : Enters Try.prog 55 := enters_of Try.func55 (by kernel_rfl) rfl
theorem ent56 : Enters Try.prog 56 := enters_of Try.func56 (by kernel_rfl) rfl
theorem ent57 : Enters Try.prog 57 := enters_of Try.func57 (by kernel_rfl) rfl
theorem ent58 : Enters Try.prog 58 := enters_of Try.func58 (by kernel_rfl) rfl
theorem ent59 : Enters Try.prog 59 := enters_of Try.func59 (by kernel_rfl) rfl
theorem ent60 : Enters Try.prog 60 := enters_of Try.func60 (by kernel_rfl) rfl
theorem ent61 : Enters Try.prog 61 := enters_of Try.func61 (by kernel_rfl) rfl
theorem ent62 : Enters Try.prog 62 := enters_of Try.func62 (by kernel_rfl) rfl
theorem ent63 : Enters Try.prog 63 := enters_of Try.func63 (by kernel_rfl) rfl
theorem ent64 : Enters Try.prog 64 := enters_of Try.func64 (by kernel_rfl) rfl
theorem ent65 : Enters Try.prog 65 := enters_of Try.func65 (by kernel_rfl) rfl
theorem ent66 : Enters Try.prog 66 := enters_of Try.func66 (by kernel_rfl) rfl
theorem ent67 : Enters Try.prog 67 := enters_of Try.func67 (by kernel_rfl) rfl
theorem ent68 : Enters Try.prog 68 := enters_of Try.func68 (by kernel_rfl) rfl
theorem ent69 : Enters Try.prog 69 := enters_of Try.func69 (by kernel_rfl) rfl
theorem ent70 : Enters Try.prog 70 := enters_of Try.func70 (by kernel_rfl) rfl
theorem ent71 : Enters Try.prog 71 := enters_of Try.func71 (by kernel_rfl) rfl
theorem ent72 : Enters Try.prog 72 := enters_of Try.func72 (by kernel_rfl) rfl
theorem ent73 : Enters Try.prog 73 := enters_of Try.func73 (by kernel_rfl) rfl
theorem ent74 : Enters Try.prog 74 := enters_of Try.func74 (by kernel_rfl) rfl
theorem ent75 : Enters Try.prog 75 := enters_of Try.func75 (by kernel_rfl) rfl
theorem ent76 : Enters Try.prog 76 := enters_of Try.func76 (by kernel_rfl) rfl
theorem ent77 : Enters Try.prog 77 := enters_of Try.func77 (by kernel_rfl) rfl
theorem ent78 : Enters Try.prog 78 := enters_of Try.func78 (by kernel_rfl) rfl
theorem ent79 : Enters Try.prog 79 := enters_of Try.func79 (by kernel_rfl) rfl
theorem ent80 : Enters Try.prog 80 := enters_of Try.func80 (by kernel_rfl) rfl
theorem ent81 : Enters Try.prog 81 := enters_of Try.func81 (by kernel_rfl) rfl
theorem ent82 : Enters Try.prog 82 := enters_of Try.func82 (by kernel_rfl) rfl
theorem ent83 : Enters Try.prog 83 := enters_of Try.func83 (by kernel_rfl) rfl
theorem ent84 : Enters Try.prog 84 := enters_of Try.func84 (by kernel_rfl) rfl
theorem ent85 : Enters Try.prog 85 := enters_of Try.func85 (by kernel_rfl) rfl
theorem ent86 : Enters Try.prog 86 := enters_of Try.func86 (by kernel_rfl) rfl
theorem ent87 : Enters Try.prog 87 := enters_of Try.func87 (by kernel_rfl) rfl
theorem ent88 : Enters Try.prog 88 := enters_of Try.func88 (by kernel_rfl) rfl
theorem ent89 : Enters Try.prog 89 := enters_of Try.func89 (by kernel_rfl) rfl
theorem ent90 : Enters Try.prog 90 := enters_of Try.func90 (by kernel_rfl) rfl
theorem ent91 : Enters Try.prog 91 := enters_of Try.func91 (by kernel_rfl) rfl
theorem ent92 : Enters Try.prog 92 := enters_of Try.func92 (by kernel_rfl) rfl
theorem ent93 : Enters Try.prog 93 := enters_of Try.func93 (by kernel_rfl) rfl
theorem ent94 : Enters Try.prog 94 := enters_of Try.func94 (by kernel_rfl) rfl
theorem ent95 : Enters Try.prog 95 := enters_of Try.func95 (by kernel_rfl) rfl
theorem ent96 : Enters Try.prog 96 := enters_of Try.func96 (by kernel_rfl) rfl
theorem ent97 : Enters Try.prog 97 := enters_of Try.func97 (by kernel_rfl) rfl
theorem ent98 : Enters Try.prog 98 := enters_of Try.func98 (by kernel_rfl) rfl
theorem ent99 : Enters Try.prog 99 := enters_of Try.func99 (by kernel_rfl) rfl
theorem ent100 : Enters Try.prog 100 := enters_of Try.func100 (by kernel_rfl) rfl
theorem ent101 : Enters Try.prog 101 := enters_of Try.func101 (by kernel_rfl) rfl
theorem ent102 : Enters Try.prog 102 := enters_of Try.func102 (by kernel_rfl) rfl
theorem ent103 : Enters Try.prog 103 := enters_of Try.func103 (by kernel_rfl) rfl
theorem ent104 : Enters Try.prog 104 := enters_of Try.func104 (by kernel_rfl) rfl
theorem ent105 : Enters Try.prog 105 := enters_of Try.func105 (by kernel_rfl) rfl
theorem ent107 : Enters Try.prog 107 := enters_of Try.func107 (by kernel_rfl) rfl
theorem ent108 : Enters Try.prog 108 := enters_of Try.func108 (by kernel_rfl) rfl
theorem ent109 : Enters Try.prog 109 := enters_of Try.func109 (by kernel_rfl) rfl
theorem ent110 : Enters Try.prog 110 := enters_of Try.func110 (by kernel_rfl) rfl
theorem ent111 : Enters Try.prog 111 := enters_of Try.func111 (by kernel_rfl) rfl
theorem ent112 : Enters Try.prog 112 := enters_of Try.func112 (by kernel_rfl) rfl
theorem ent113 : Enters Try.prog 113 := enters_of Try.func113 (by kernel_rfl) rfl
theorem ent114 : Enters Try.prog 114 := enters_of Try.func114 (by kernel_rfl) rfl
theorem ent115 : Enters Try.prog 115 := enters_of Try.func115 (by kernel_rfl) rfl
theorem ent116 : Enters Try.prog 116 := enters_of Try.func116 (by kernel_rfl) rfl
theorem ent117 : Enters Try.prog 117 := enters_of Try.func117 (by kernel_rfl) rfl
theorem ent118 : Enters Try.prog 118 := enters_of Try.func118 (by kernel_rfl) rfl
theorem ent119 : Enters Try.prog 119 := enters_of Try.func119 (by kernel_rfl) rfl
theorem ent120 : Enters Try.prog 120 := enters_of Try.func120 (by kernel_rfl) rfl
theorem ent121 : Enters Try.prog 121 := enters_of Try.func121 (by kernel_rfl) rfl
theorem ent122 : Enters Try.prog 122 := enters_of Try.func122 (by kernel_rfl) rfl
theorem ent123 : Enters Try.prog 123 := enters_of Try.func123 (by kernel_rfl) rfl
theorem ent125 : Enters Try.prog 125 := enters_of Try.func125 (by kernel_rfl) rfl
theorem ent127 : Enters Try.prog 127 := enters_of Try.func127 (by kernel_rfl) rfl
theorem ent128 : Enters Try.prog 128 := enters_of Try.func128 (by kernel_rfl) rfl
theorem ent129 : Enters Try.prog 129 := enters_of Try.func129 (by kernel_rfl) rfl
end Go.Proofs.Ytblpgpgbnlhjlaa
