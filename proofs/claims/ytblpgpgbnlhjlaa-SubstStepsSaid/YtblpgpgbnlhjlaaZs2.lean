/- Texts of this claim, bundled. -/
import Derived.Test.YtblpgpgbnlhjlaaZs1
namespace Go.Proofs.Ytblpgpgbnlhjlaa
open Go Go.RowKit Sl
set_option maxRecDepth 100000
def ty1 : TI := { u := .func #[] #[] false, size := 1, bytes := 8, zero := .nilFunc }
theorem tyOk1 : TyOk Try.prog 1 ty1 := ⟨Try.underlying1, by kernel_rfl⟩
def ty2 : TI := { u := .int .i64, size := 1, bytes := 8, zero := .int .i64 (0) }
theorem tyOk2 : TyOk Try.prog 2 ty2 := ⟨Try.underlying2, by kernel_rfl⟩
def ty3 : TI := { u := .int .i64, size := 1, bytes := 8, zero := .int .i64 (0) }
theorem tyOk3 : TyOk Try.prog 3 ty3 := ⟨Try.underlying3, by kernel_rfl⟩
def ty4 : TI := { u := .bool, size := 1, bytes := 1, zero := .bool false }
theorem tyOk4 : TyOk Try.prog 4 ty4 := ⟨Try.underlying4, by kernel_rfl⟩
def ty5 : TI := { u := .int .u8, size := 1, bytes := 1, zero := .int .u8 (0) }
theorem tyOk5 : TyOk Try.prog 5 ty5 := ⟨Try.underlying5, by kernel_rfl⟩
def ty9 : TI := { u := .string, size := 1, bytes := 16, zero := .string ⟨#[]⟩ }
theorem tyOk9 : TyOk Try.prog 9 ty9 := ⟨Try.underlying9, by kernel_rfl⟩
def ty12 : TI := { u := .int .u64, size := 1, bytes := 8, zero := .int .u64 (0) }
theorem tyOk12 : TyOk Try.prog 12 ty12 := ⟨Try.underlying12, by kernel_rfl⟩
def ty21 : TI := { u := .int .i32, size := 1, bytes := 4, zero := .int .i32 (0) }
theorem tyOk21 : TyOk Try.prog 21 ty21 := ⟨Try.underlying21, by kernel_rfl⟩
def ty22 : TI := { u := .func #[] #[4] false, size := 1, bytes := 8, zero := .nilFunc }
theorem tyOk22 : TyOk Try.prog 22 ty22 := ⟨Try.underlying22, by kernel_rfl⟩
def ty23 : TI := { u := .int .i64, size := 1, bytes := 8, zero := .int .i64 (0) }
theorem tyOk23 : TyOk Try.prog 23 ty23 := ⟨Try.underlying23, by kernel_rfl⟩
def ty25 : TI := { u := .func #[9, 9, 3] #[3, 23] false, size := 1, bytes := 8, zero := .nilFunc }
theorem tyOk25 : TyOk Try.prog 25 ty25 := ⟨Try.underlying25, by kernel_rfl⟩
def ty26 : TI := { u := .func #[5] #[4] false, size := 1, bytes := 8, zero := .nilFunc }
theorem tyOk26 : TyOk Try.prog 26 ty26 := ⟨Try.underlying26, by kernel_rfl⟩
def ty27 : TI := { u := .func #[9, 9, 5] #[4] false, size := 1, bytes := 8, zero := .nilFunc }
theorem tyOk27 : TyOk Try.prog 27 ty27 := ⟨Try.underlying27, by kernel_rfl⟩
def ty28 : TI := { u := .slice 33, size := 1, bytes := 24, zero := .slice none 0 0 }
theorem tyOk28 : TyOk Try.prog 28 ty28 := ⟨Try.underlying28, by kernel_rfl⟩
def ty30 : TI := { u := .func #[9, 9, 3] #[28, 4, 3, 23] false, size := 1, bytes := 8, zero := .nilFunc }
theorem tyOk30 : TyOk Try.prog 30 ty30 := ⟨Try.underlying30, by kernel_rfl⟩
def ty31 : TI := { u := .func #[28, 28] #[4] false, size := 1, bytes := 8, zero := .nilFunc }
theorem tyOk31 : TyOk Try.prog 31 ty31 := ⟨Try.underlying31, by kernel_rfl⟩
def ty32 : TI := { u := .struct #[{ name := "From", type := 3, offset := 0, embedded := false, tag := "", pkgPath := "", byteOffset := 0 }, { name := "To", type := 3, offset := 1, embedded := false, tag := "", pkgPath := "", byteOffset := 8 }], size := 2, bytes := 16, zero := .agg #[.int .i64 (0), .int .i64 (0)] }
theorem tyOk32 : TyOk Try.prog 32 ty32 := ⟨Try.underlying32, by kernel_rfl⟩
def ty33 : TI := { u := .struct #[{ name := "From", type := 3, offset := 0, embedded := false, tag := "", pkgPath := "", byteOffset := 0 }, { name := "To", type := 3, offset := 1, embedded := false, tag := "", pkgPath := "", byteOffset := 8 }], size := 2, bytes := 16, zero := .agg #[.int .i64 (0), .int .i64 (0)] }
theorem tyOk33 : TyOk Try.prog 33 ty33 := ⟨Try.underlying33, by kernel_rfl⟩
def ty34 : TI := { u := .func #[5, 5] #[4] false, size := 1, bytes := 8, zero := .nilFunc }
theorem tyOk34 : TyOk Try.prog 34 ty34 := ⟨Try.underlying34, by kernel_rfl⟩
def ty36 : TI := { u := .func #[9, 9, 3] #[28, 4, 23] false, size := 1, bytes := 8, zero := .nilFunc }
theorem tyOk36 : TyOk Try.prog 36 ty36 := ⟨Try.underlying36, by kernel_rfl⟩
def ty37 : TI := { u := .func #[9, 9] #[4] false, size := 1, bytes := 8, zero := .nilFunc }
theorem tyOk37 : TyOk Try.prog 37 ty37 := ⟨Try.underlying37, by kernel_rfl⟩
def ty38 : TI := { u := .func #[9] #[4] false, size := 1, bytes := 8, zero := .nilFunc }
theorem tyOk38 : TyOk Try.prog 38 ty38 := ⟨Try.underlying38, by kernel_rfl⟩
def ty39 : TI := { u := .pointer 112, size := 1, bytes := 8, zero := .pointer none }
theorem tyOk39 : TyOk Try.prog 39 ty39 := ⟨Try.underlying39, by kernel_rfl⟩
def ty40 : TI := { u := .func #[9, 3] #[28, 4, 23] false, size := 1, bytes := 8, zero := .nilFunc }
theorem tyOk40 : TyOk Try.prog 40 ty40 := ⟨Try.underlying40, by kernel_rfl⟩
def ty41 : TI := { u := .func #[] #[9] false, size := 1, bytes := 8, zero := .nilFunc }
theorem tyOk41 : TyOk Try.prog 41 ty41 := ⟨Try.underlying41, by kernel_rfl⟩
def ty42 : TI := { u := .func #[] #[3] false, size := 1, bytes := 8, zero := .nilFunc }
theorem tyOk42 : TyOk Try.prog 42 ty42 := ⟨Try.underlying42, by kernel_rfl⟩
def ty43 : TI := { u := .func #[9, 3] #[4] false, size := 1, bytes := 8, zero := .nilFunc }
theorem tyOk43 : TyOk Try.prog 43 ty43 := ⟨Try.underlying43, by kernel_rfl⟩
def ty44 : TI := { u := .slice 5, size := 1, bytes := 24, zero := .slice none 0 0 }
theorem tyOk44 : TyOk Try.prog 44 ty44 := ⟨Try.underlying44, by kernel_rfl⟩
def ty45 : TI := { u := .slice 28, size := 1, bytes := 24, zero := .slice none 0 0 }
theorem tyOk45 : TyOk Try.prog 45 ty45 := ⟨Try.underlying45, by kernel_rfl⟩
def ty47 : TI := { u := .func #[9, 9, 3] #[45, 23] false, size := 1, bytes := 8, zero := .nilFunc }
theorem tyOk47 : TyOk Try.prog 47 ty47 := ⟨Try.underlying47, by kernel_rfl⟩
def ty48 : TI := { u := .func #[5, 9] #[4] false, size := 1, bytes := 8, zero := .nilFunc }
theorem tyOk48 : TyOk Try.prog 48 ty48 := ⟨Try.underlying48, by kernel_rfl⟩
def ty50 : TI := { u := .func #[39, 9, 3] #[45, 23, 4] false, size := 1, bytes := 8, zero := .nilFunc }
theorem tyOk50 : TyOk Try.prog 50 ty50 := ⟨Try.underlying50, by kernel_rfl⟩
def ty51 : TI := { u := .pointer 119, size := 1, bytes := 8, zero := .pointer none }
theorem tyOk51 : TyOk Try.prog 51 ty51 := ⟨Try.underlying51, by kernel_rfl⟩
def ty53 : TI := { u := .func #[59] #[51, 23] false, size := 1, bytes := 8, zero := .nilFunc }
theorem tyOk53 : TyOk Try.prog 53 ty53 := ⟨Try.underlying53, by kernel_rfl⟩
def ty54 : TI := { u := .struct #[{ name := "Kind", type := 3, offset := 0, embedded := false, tag := "", pkgPath := "", byteOffset := 0 }, { name := "Line", type := 3, offset := 1, embedded := false, tag := "", pkgPath := "", byteOffset := 8 }, { name := "Re", type := 9, offset := 2, embedded := false, tag := "", pkgPath := "", byteOffset := 16 }], size := 3, bytes := 32, zero := .agg #[.int .i64 (0), .int .i64 (0), .string ⟨#[]⟩] }
theorem tyOk54 : TyOk Try.prog 54 ty54 := ⟨Try.underlying54, by kernel_rfl⟩
def ty55 : TI := { u := .struct #[{ name := "Kind", type := 3, offset := 0, embedded := false, tag := "", pkgPath := "", byteOffset := 0 }, { name := "Line", type := 3, offset := 1, embedded := false, tag := "", pkgPath := "", byteOffset := 8 }, { name := "Re", type := 9, offset := 2, embedded := false, tag := "", pkgPath := "", byteOffset := 16 }], size := 3, bytes := 32, zero := .agg #[.int .i64 (0), .int .i64 (0), .string ⟨#[]⟩] }
theorem tyOk55 : TyOk Try.prog 55 ty55 := ⟨Try.underlying55, by kernel_rfl⟩
def ty56 : TI := { u := .func #[3] #[55] false, size := 1, bytes := 8, zero := .nilFunc }
theorem tyOk56 : TyOk Try.prog 56 ty56 := ⟨Try.underlying56, by kernel_rfl⟩
def ty57 : TI := { u := .struct #[{ name := "A", type := 55, offset := 0, embedded := false, tag := "", pkgPath := "", byteOffset := 0 }, { name := "B", type := 55, offset := 3, embedded := false, tag := "", pkgPath := "", byteOffset := 32 }, { name := "Not", type := 4, offset := 6, embedded := false, tag := "", pkgPath := "", byteOffset := 64 }], size := 7, bytes := 72, zero := .agg #[.int .i64 (0), .int .i64 (0), .string ⟨#[]⟩, .int .i64 (0), .int .i64 (0), .string ⟨#[]⟩, .bool false] }
theorem tyOk57 : TyOk Try.prog 57 ty57 := ⟨Try.underlying57, by kernel_rfl⟩
def ty58 : TI := { u := .struct #[{ name := "A", type := 55, offset := 0, embedded := false, tag := "", pkgPath := "", byteOffset := 0 }, { name := "B", type := 55, offset := 3, embedded := false, tag := "", pkgPath := "", byteOffset := 32 }, { name := "Not", type := 4, offset := 6, embedded := false, tag := "", pkgPath := "", byteOffset := 64 }], size := 7, bytes := 72, zero := .agg #[.int .i64 (0), .int .i64 (0), .string ⟨#[]⟩, .int .i64 (0), .int .i64 (0), .string ⟨#[]⟩, .bool false] }
theorem tyOk58 : TyOk Try.prog 58 ty58 := ⟨Try.underlying58, by kernel_rfl⟩
def ty59 : TI := { u := .slice 58, size := 1, bytes := 24, zero := .slice none 0 0 }
theorem tyOk59 : TyOk Try.prog 59 ty59 := ⟨Try.underlying59, by kernel_rfl⟩
def ty60 : TI := { u := .array 5 4, size := 5, bytes := 5, zero := .agg #[.bool false, .bool false, .bool false, .bool false, .bool false] }
theorem tyOk60 : TyOk Try.prog 60 ty60 := ⟨Try.underlying60, by kernel_rfl⟩
def ty62 : TI := { u := .func #[3, 3, 4, 9] #[4, 4, 23] false, size := 1, bytes := 8, zero := .nilFunc }
theorem tyOk62 : TyOk Try.prog 62 ty62 := ⟨Try.underlying62, by kernel_rfl⟩
def ty63 : TI := { u := .func #[5, 5, 5] #[4] false, size := 1, bytes := 8, zero := .nilFunc }
theorem tyOk63 : TyOk Try.prog 63 ty63 := ⟨Try.underlying63, by kernel_rfl⟩
def ty64 : TI := { u := .func #[9] #[55] false, size := 1, bytes := 8, zero := .nilFunc }
theorem tyOk64 : TyOk Try.prog 64 ty64 := ⟨Try.underlying64, by kernel_rfl⟩
def ty65 : TI := { u := .func #[39] #[] false, size := 1, bytes := 8, zero := .nilFunc }
theorem tyOk65 : TyOk Try.prog 65 ty65 := ⟨Try.underlying65, by kernel_rfl⟩
def ty66 : TI := { u := .struct #[{ name := "E", type := 23, offset := 0, embedded := false, tag := "", pkgPath := "", byteOffset := 0 }, { name := "At", type := 3, offset := 1, embedded := false, tag := "", pkgPath := "", byteOffset := 8 }], size := 2, bytes := 16, zero := .agg #[.int .i64 (0), .int .i64 (0)] }
theorem tyOk66 : TyOk Try.prog 66 ty66 := ⟨Try.underlying66, by kernel_rfl⟩
def ty67 : TI := { u := .struct #[{ name := "E", type := 23, offset := 0, embedded := false, tag := "", pkgPath := "", byteOffset := 0 }, { name := "At", type := 3, offset := 1, embedded := false, tag := "", pkgPath := "", byteOffset := 8 }], size := 2, bytes := 16, zero := .agg #[.int .i64 (0), .int .i64 (0)] }
theorem tyOk67 : TyOk Try.prog 67 ty67 := ⟨Try.underlying67, by kernel_rfl⟩
def ty69 : TI := { u := .func #[9] #[39, 67] false, size := 1, bytes := 8, zero := .nilFunc }
theorem tyOk69 : TyOk Try.prog 69 ty69 := ⟨Try.underlying69, by kernel_rfl⟩
def ty70 : TI := { u := .func #[] #[39] false, size := 1, bytes := 8, zero := .nilFunc }
theorem tyOk70 : TyOk Try.prog 70 ty70 := ⟨Try.underlying70, by kernel_rfl⟩
def ty71 : TI := { u := .func #[9, 4] #[4] false, size := 1, bytes := 8, zero := .nilFunc }
theorem tyOk71 : TyOk Try.prog 71 ty71 := ⟨Try.underlying71, by kernel_rfl⟩
def ty72 : TI := { u := .struct #[{ name := "Group", type := 3, offset := 0, embedded := false, tag := "", pkgPath := "", byteOffset := 0 }, { name := "Text", type := 9, offset := 1, embedded := false, tag := "", pkgPath := "", byteOffset := 8 }], size := 2, bytes := 24, zero := .agg #[.int .i64 (0), .string ⟨#[]⟩] }
theorem tyOk72 : TyOk Try.prog 72 ty72 := ⟨Try.underlying72, by kernel_rfl⟩
def ty73 : TI := { u := .struct #[{ name := "Group", type := 3, offset := 0, embedded := false, tag := "", pkgPath := "", byteOffset := 0 }, { name := "Text", type := 9, offset := 1, embedded := false, tag := "", pkgPath := "", byteOffset := 8 }], size := 2, bytes := 24, zero := .agg #[.int .i64 (0), .string ⟨#[]⟩] }
theorem tyOk73 : TyOk Try.prog 73 ty73 := ⟨Try.underlying73, by kernel_rfl⟩
def ty74 : TI := { u := .slice 73, size := 1, bytes := 24, zero := .slice none 0 0 }
theorem tyOk74 : TyOk Try.prog 74 ty74 := ⟨Try.underlying74, by kernel_rfl⟩
def ty76 : TI := { u := .func #[39, 74, 3, 4, 9] #[9, 3, 23] false, size := 1, bytes := 8, zero := .nilFunc }
theorem tyOk76 : TyOk Try.prog 76 ty76 := ⟨Try.underlying76, by kernel_rfl⟩
def ty77 : TI := { u := .int .u64, size := 1, bytes := 8, zero := .int .u64 (0) }
theorem tyOk77 : TyOk Try.prog 77 ty77 := ⟨Try.underlying77, by kernel_rfl⟩
def ty78 : TI := { u := .array 4 77, size := 4, bytes := 32, zero := .agg #[.int .u64 (0), .int .u64 (0), .int .u64 (0), .int .u64 (0)] }
theorem tyOk78 : TyOk Try.prog 78 ty78 := ⟨Try.underlying78, by kernel_rfl⟩
def ty79 : TI := { u := .array 4 77, size := 4, bytes := 32, zero := .agg #[.int .u64 (0), .int .u64 (0), .int .u64 (0), .int .u64 (0)] }
theorem tyOk79 : TyOk Try.prog 79 ty79 := ⟨Try.underlying79, by kernel_rfl⟩
def ty80 : TI := { u := .slice 82, size := 1, bytes := 24, zero := .slice none 0 0 }
theorem tyOk80 : TyOk Try.prog 80 ty80 := ⟨Try.underlying80, by kernel_rfl⟩
def ty81 : TI := { u := .struct #[{ name := "Kind", type := 3, offset := 0, embedded := false, tag := "", pkgPath := "", byteOffset := 0 }, { name := "Set", type := 79, offset := 1, embedded := false, tag := "", pkgPath := "", byteOffset := 8 }, { name := "Lo", type := 3, offset := 5, embedded := false, tag := "", pkgPath := "", byteOffset := 40 }, { name := "Hi", type := 3, offset := 6, embedded := false, tag := "", pkgPath := "", byteOffset := 48 }, { name := "Group", type := 3, offset := 7, embedded := false, tag := "", pkgPath := "", byteOffset := 56 }, { name := "Kids", type := 80, offset := 8, embedded := false, tag := "", pkgPath := "", byteOffset := 64 }], size := 9, bytes := 88, zero := .agg #[.int .i64 (0), .int .u64 (0), .int .u64 (0), .int .u64 (0), .int .u64 (0), .int .i64 (0), .int .i64 (0), .int .i64 (0), .slice none 0 0] }
theorem tyOk81 : TyOk Try.prog 81 ty81 := ⟨Try.underlying81, by kernel_rfl⟩
def ty82 : TI := { u := .struct #[{ name := "Kind", type := 3, offset := 0, embedded := false, tag := "", pkgPath := "", byteOffset := 0 }, { name := "Set", type := 79, offset := 1, embedded := false, tag := "", pkgPath := "", byteOffset := 8 }, { name := "Lo", type := 3, offset := 5, embedded := false, tag := "", pkgPath := "", byteOffset := 40 }, { name := "Hi", type := 3, offset := 6, embedded := false, tag := "", pkgPath := "", byteOffset := 48 }, { name := "Group", type := 3, offset := 7, embedded := false, tag := "", pkgPath := "", byteOffset := 56 }, { name := "Kids", type := 80, offset := 8, embedded := false, tag := "", pkgPath := "", byteOffset := 64 }], size := 9, bytes := 88, zero := .agg #[.int .i64 (0), .int .u64 (0), .int .u64 (0), .int .u64 (0), .int .u64 (0), .int .i64 (0), .int .i64 (0), .int .i64 (0), .slice none 0 0] }
theorem tyOk82 : TyOk Try.prog 82 ty82 := ⟨Try.underlying82, by kernel_rfl⟩
def ty84 : TI := { u := .func #[9] #[82, 67] false, size := 1, bytes := 8, zero := .nilFunc }
theorem tyOk84 : TyOk Try.prog 84 ty84 := ⟨Try.underlying84, by kernel_rfl⟩
def ty85 : TI := { u := .pointer 88, size := 1, bytes := 8, zero := .pointer none }
theorem tyOk85 : TyOk Try.prog 85 ty85 := ⟨Try.underlying85, by kernel_rfl⟩
def ty86 : TI := { u := .map 153 89, size := 1, bytes := 8, zero := .map none }
theorem tyOk86 : TyOk Try.prog 86 ty86 := ⟨Try.underlying86, by kernel_rfl⟩
def ty87 : TI := { u := .struct #[{ name := "subject", type := 9, offset := 0, embedded := false, tag := "", pkgPath := "runnel/ways", byteOffset := 0 }, { name := "rows", type := 86, offset := 1, embedded := false, tag := "", pkgPath := "runnel/ways", byteOffset := 16 }], size := 2, bytes := 24, zero := .agg #[.string ⟨#[]⟩, .map none] }
theorem tyOk87 : TyOk Try.prog 87 ty87 := ⟨Try.underlying87, by kernel_rfl⟩
def ty88 : TI := { u := .struct #[{ name := "subject", type := 9, offset := 0, embedded := false, tag := "", pkgPath := "runnel/ways", byteOffset := 0 }, { name := "rows", type := 86, offset := 1, embedded := false, tag := "", pkgPath := "runnel/ways", byteOffset := 16 }], size := 2, bytes := 24, zero := .agg #[.string ⟨#[]⟩, .map none] }
theorem tyOk88 : TyOk Try.prog 88 ty88 := ⟨Try.underlying88, by kernel_rfl⟩
def ty89 : TI := { u := .slice 3, size := 1, bytes := 24, zero := .slice none 0 0 }
theorem tyOk89 : TyOk Try.prog 89 ty89 := ⟨Try.underlying89, by kernel_rfl⟩
def ty90 : TI := { u := .func #[91, 3] #[89] false, size := 1, bytes := 8, zero := .nilFunc }
theorem tyOk90 : TyOk Try.prog 90 ty90 := ⟨Try.underlying90, by kernel_rfl⟩
def ty91 : TI := { u := .pointer 82, size := 1, bytes := 8, zero := .pointer none }
theorem tyOk91 : TyOk Try.prog 91 ty91 := ⟨Try.underlying91, by kernel_rfl⟩
def ty92 : TI := { u := .struct #[{ name := "Positions", type := 3, offset := 0, embedded := false, tag := "", pkgPath := "", byteOffset := 0 }, { name := "Groups", type := 3, offset := 1, embedded := false, tag := "", pkgPath := "", byteOffset := 8 }, { name := "Least", type := 3, offset := 2, embedded := false, tag := "", pkgPath := "", byteOffset := 16 }, { name := "Most", type := 3, offset := 3, embedded := false, tag := "", pkgPath := "", byteOffset := 24 }, { name := "Back", type := 4, offset := 4, embedded := false, tag := "", pkgPath := "", byteOffset := 32 }, { name := "Bol", type := 4, offset := 5, embedded := false, tag := "", pkgPath := "", byteOffset := 33 }, { name := "Eol", type := 4, offset := 6, embedded := false, tag := "", pkgPath := "", byteOffset := 34 }], size := 7, bytes := 40, zero := .agg #[.int .i64 (0), .int .i64 (0), .int .i64 (0), .int .i64 (0), .bool false, .bool false, .bool false] }
theorem tyOk92 : TyOk Try.prog 92 ty92 := ⟨Try.underlying92, by kernel_rfl⟩
def ty93 : TI := { u := .struct #[{ name := "Positions", type := 3, offset := 0, embedded := false, tag := "", pkgPath := "", byteOffset := 0 }, { name := "Groups", type := 3, offset := 1, embedded := false, tag := "", pkgPath := "", byteOffset := 8 }, { name := "Least", type := 3, offset := 2, embedded := false, tag := "", pkgPath := "", byteOffset := 16 }, { name := "Most", type := 3, offset := 3, embedded := false, tag := "", pkgPath := "", byteOffset := 24 }, { name := "Back", type := 4, offset := 4, embedded := false, tag := "", pkgPath := "", byteOffset := 32 }, { name := "Bol", type := 4, offset := 5, embedded := false, tag := "", pkgPath := "", byteOffset := 33 }, { name := "Eol", type := 4, offset := 6, embedded := false, tag := "", pkgPath := "", byteOffset := 34 }], size := 7, bytes := 40, zero := .agg #[.int .i64 (0), .int .i64 (0), .int .i64 (0), .int .i64 (0), .bool false, .bool false, .bool false] }
theorem tyOk93 : TyOk Try.prog 93 ty93 := ⟨Try.underlying93, by kernel_rfl⟩
def ty95 : TI := { u := .func #[9] #[93, 67] false, size := 1, bytes := 8, zero := .nilFunc }
theorem tyOk95 : TyOk Try.prog 95 ty95 := ⟨Try.underlying95, by kernel_rfl⟩
def ty96 : TI := { u := .pointer 100, size := 1, bytes := 8, zero := .pointer none }
theorem tyOk96 : TyOk Try.prog 96 ty96 := ⟨Try.underlying96, by kernel_rfl⟩
def ty97 : TI := { u := .struct #[{ name := "Subject", type := 9, offset := 0, embedded := false, tag := "", pkgPath := "", byteOffset := 0 }, { name := "Steps", type := 3, offset := 1, embedded := false, tag := "", pkgPath := "", byteOffset := 16 }], size := 2, bytes := 24, zero := .agg #[.string ⟨#[]⟩, .int .i64 (0)] }
theorem tyOk97 : TyOk Try.prog 97 ty97 := ⟨Try.underlying97, by kernel_rfl⟩
def ty98 : TI := { u := .struct #[{ name := "Subject", type := 9, offset := 0, embedded := false, tag := "", pkgPath := "", byteOffset := 0 }, { name := "Steps", type := 3, offset := 1, embedded := false, tag := "", pkgPath := "", byteOffset := 16 }], size := 2, bytes := 24, zero := .agg #[.string ⟨#[]⟩, .int .i64 (0)] }
theorem tyOk98 : TyOk Try.prog 98 ty98 := ⟨Try.underlying98, by kernel_rfl⟩
def ty99 : TI := { u := .struct #[{ name := "Walk", type := 98, offset := 0, embedded := true, tag := "", pkgPath := "", byteOffset := 0 }, { name := "spans", type := 28, offset := 2, embedded := false, tag := "", pkgPath := "runnel/setmatch", byteOffset := 24 }], size := 3, bytes := 48, zero := .agg #[.string ⟨#[]⟩, .int .i64 (0), .slice none 0 0] }
theorem tyOk99 : TyOk Try.prog 99 ty99 := ⟨Try.underlying99, by kernel_rfl⟩
def ty100 : TI := { u := .struct #[{ name := "Walk", type := 98, offset := 0, embedded := true, tag := "", pkgPath := "", byteOffset := 0 }, { name := "spans", type := 28, offset := 2, embedded := false, tag := "", pkgPath := "runnel/setmatch", byteOffset := 24 }], size := 3, bytes := 48, zero := .agg #[.string ⟨#[]⟩, .int .i64 (0), .slice none 0 0] }
theorem tyOk100 : TyOk Try.prog 100 ty100 := ⟨Try.underlying100, by kernel_rfl⟩
def ty102 : TI := { u := .func #[103, 3] #[33, 4] false, size := 1, bytes := 8, zero := .nilFunc }
theorem tyOk102 : TyOk Try.prog 102 ty102 := ⟨Try.underlying102, by kernel_rfl⟩
def ty103 : TI := { u := .pointer 163, size := 1, bytes := 8, zero := .pointer none }
theorem tyOk103 : TyOk Try.prog 103 ty103 := ⟨Try.underlying103, by kernel_rfl⟩
def ty104 : TI := { u := .func #[80] #[103] false, size := 1, bytes := 8, zero := .nilFunc }
theorem tyOk104 : TyOk Try.prog 104 ty104 := ⟨Try.underlying104, by kernel_rfl⟩
def ty105 : TI := { u := .func #[91, 3, 3] #[] false, size := 1, bytes := 8, zero := .nilFunc }
theorem tyOk105 : TyOk Try.prog 105 ty105 := ⟨Try.underlying105, by kernel_rfl⟩
def ty106 : TI := { u := .pointer 109, size := 1, bytes := 8, zero := .pointer none }
theorem tyOk106 : TyOk Try.prog 106 ty106 := ⟨Try.underlying106, by kernel_rfl⟩
def ty107 : TI := { u := .map 220 89, size := 1, bytes := 8, zero := .map none }
theorem tyOk107 : TyOk Try.prog 107 ty107 := ⟨Try.underlying107, by kernel_rfl⟩
def ty108 : TI := { u := .struct #[{ name := "walk", type := 98, offset := 0, embedded := false, tag := "", pkgPath := "runnel/backmatch", byteOffset := 0 }, { name := "spans", type := 28, offset := 2, embedded := false, tag := "", pkgPath := "runnel/backmatch", byteOffset := 24 }, { name := "found", type := 107, offset := 3, embedded := false, tag := "", pkgPath := "runnel/backmatch", byteOffset := 48 }], size := 4, bytes := 56, zero := .agg #[.string ⟨#[]⟩, .int .i64 (0), .slice none 0 0, .map none] }
theorem tyOk108 : TyOk Try.prog 108 ty108 := ⟨Try.underlying108, by kernel_rfl⟩
def ty109 : TI := { u := .struct #[{ name := "walk", type := 98, offset := 0, embedded := false, tag := "", pkgPath := "runnel/backmatch", byteOffset := 0 }, { name := "spans", type := 28, offset := 2, embedded := false, tag := "", pkgPath := "runnel/backmatch", byteOffset := 24 }, { name := "found", type := 107, offset := 3, embedded := false, tag := "", pkgPath := "runnel/backmatch", byteOffset := 48 }], size := 4, bytes := 56, zero := .agg #[.string ⟨#[]⟩, .int .i64 (0), .slice none 0 0, .map none] }
theorem tyOk109 : TyOk Try.prog 109 ty109 := ⟨Try.underlying109, by kernel_rfl⟩
def ty110 : TI := { u := .func #[91, 103, 3, 3] #[4] false, size := 1, bytes := 8, zero := .nilFunc }
theorem tyOk110 : TyOk Try.prog 110 ty110 := ⟨Try.underlying110, by kernel_rfl⟩
def ty111 : TI := { u := .struct #[{ name := "text", type := 9, offset := 0, embedded := false, tag := "", pkgPath := "runnel/matcher", byteOffset := 0 }, { name := "known", type := 93, offset := 1, embedded := false, tag := "", pkgPath := "runnel/matcher", byteOffset := 16 }, { name := "steps", type := 3, offset := 8, embedded := false, tag := "", pkgPath := "runnel/matcher", byteOffset := 56 }, { name := "match", type := 40, offset := 9, embedded := false, tag := "", pkgPath := "runnel/matcher", byteOffset := 64 }], size := 10, bytes := 72, zero := .agg #[.string ⟨#[]⟩, .int .i64 (0), .int .i64 (0), .int .i64 (0), .int .i64 (0), .bool false, .bool false, .bool false, .int .i64 (0), .nilFunc] }
theorem tyOk111 : TyOk Try.prog 111 ty111 := ⟨Try.underlying111, by kernel_rfl⟩
def ty112 : TI := { u := .struct #[{ name := "text", type := 9, offset := 0, embedded := false, tag := "", pkgPath := "runnel/matcher", byteOffset := 0 }, { name := "known", type := 93, offset := 1, embedded := false, tag := "", pkgPath := "runnel/matcher", byteOffset := 16 }, { name := "steps", type := 3, offset := 8, embedded := false, tag := "", pkgPath := "runnel/matcher", byteOffset := 56 }, { name := "match", type := 40, offset := 9, embedded := false, tag := "", pkgPath := "runnel/matcher", byteOffset := 64 }], size := 10, bytes := 72, zero := .agg #[.string ⟨#[]⟩, .int .i64 (0), .int .i64 (0), .int .i64 (0), .int .i64 (0), .bool false, .bool false, .bool false, .int .i64 (0), .nilFunc] }
theorem tyOk112 : TyOk Try.prog 112 ty112 := ⟨Try.underlying112, by kernel_rfl⟩
def ty113 : TI := { u := .func #[45, 45] #[4] false, size := 1, bytes := 8, zero := .nilFunc }
theorem tyOk113 : TyOk Try.prog 113 ty113 := ⟨Try.underlying113, by kernel_rfl⟩
def ty114 : TI := { u := .func #[167] #[] false, size := 1, bytes := 8, zero := .nilFunc }
theorem tyOk114 : TyOk Try.prog 114 ty114 := ⟨Try.underlying114, by kernel_rfl⟩
def ty115 : TI := { u := .func #[167] #[] false, size := 1, bytes := 8, zero := .nilFunc }
theorem tyOk115 : TyOk Try.prog 115 ty115 := ⟨Try.underlying115, by kernel_rfl⟩
def ty116 : TI := { u := .func #[39, 9] #[115] false, size := 1, bytes := 8, zero := .nilFunc }
theorem tyOk116 : TyOk Try.prog 116 ty116 := ⟨Try.underlying116, by kernel_rfl⟩
def ty117 : TI := { u := .slice 123, size := 1, bytes := 24, zero := .slice none 0 0 }
theorem tyOk117 : TyOk Try.prog 117 ty117 := ⟨Try.underlying117, by kernel_rfl⟩
def ty118 : TI := { u := .struct #[{ name := "rows", type := 117, offset := 0, embedded := false, tag := "", pkgPath := "runnel/pick", byteOffset := 0 }, { name := "last", type := 39, offset := 1, embedded := false, tag := "", pkgPath := "runnel/pick", byteOffset := 24 }], size := 2, bytes := 32, zero := .agg #[.slice none 0 0, .pointer none] }
theorem tyOk118 : TyOk Try.prog 118 ty118 := ⟨Try.underlying118, by kernel_rfl⟩
def ty119 : TI := { u := .struct #[{ name := "rows", type := 117, offset := 0, embedded := false, tag := "", pkgPath := "runnel/pick", byteOffset := 0 }, { name := "last", type := 39, offset := 1, embedded := false, tag := "", pkgPath := "runnel/pick", byteOffset := 24 }], size := 2, bytes := 32, zero := .agg #[.slice none 0 0, .pointer none] }
theorem tyOk119 : TyOk Try.prog 119 ty119 := ⟨Try.underlying119, by kernel_rfl⟩
def ty121 : TI := { u := .func #[55] #[39, 23] false, size := 1, bytes := 8, zero := .nilFunc }
theorem tyOk121 : TyOk Try.prog 121 ty121 := ⟨Try.underlying121, by kernel_rfl⟩
def ty122 : TI := { u := .struct #[{ name := "row", type := 58, offset := 0, embedded := false, tag := "", pkgPath := "runnel/pick", byteOffset := 0 }, { name := "a", type := 39, offset := 7, embedded := false, tag := "", pkgPath := "runnel/pick", byteOffset := 72 }, { name := "b", type := 39, offset := 8, embedded := false, tag := "", pkgPath := "runnel/pick", byteOffset := 80 }, { name := "on", type := 4, offset := 9, embedded := false, tag := "", pkgPath := "runnel/pick", byteOffset := 88 }], size := 10, bytes := 96, zero := .agg #[.int .i64 (0), .int .i64 (0), .string ⟨#[]⟩, .int .i64 (0), .int .i64 (0), .string ⟨#[]⟩, .bool false, .pointer none, .pointer none, .bool false] }
theorem tyOk122 : TyOk Try.prog 122 ty122 := ⟨Try.underlying122, by kernel_rfl⟩
def ty123 : TI := { u := .struct #[{ name := "row", type := 58, offset := 0, embedded := false, tag := "", pkgPath := "runnel/pick", byteOffset := 0 }, { name := "a", type := 39, offset := 7, embedded := false, tag := "", pkgPath := "runnel/pick", byteOffset := 72 }, { name := "b", type := 39, offset := 8, embedded := false, tag := "", pkgPath := "runnel/pick", byteOffset := 80 }, { name := "on", type := 4, offset := 9, embedded := false, tag := "", pkgPath := "runnel/pick", byteOffset := 88 }], size := 10, bytes := 96, zero := .agg #[.int .i64 (0), .int .i64 (0), .string ⟨#[]⟩, .int .i64 (0), .int .i64 (0), .string ⟨#[]⟩, .bool false, .pointer none, .pointer none, .bool false] }
theorem tyOk123 : TyOk Try.prog 123 ty123 := ⟨Try.underlying123, by kernel_rfl⟩
def ty124 : TI := { u := .pointer 123, size := 1, bytes := 8, zero := .pointer none }
theorem tyOk124 : TyOk Try.prog 124 ty124 := ⟨Try.underlying124, by kernel_rfl⟩
def ty125 : TI := { u := .struct #[{ name := "line", type := 3, offset := 0, embedded := false, tag := "", pkgPath := "runnel/pick", byteOffset := 0 }, { name := "last", type := 4, offset := 1, embedded := false, tag := "", pkgPath := "runnel/pick", byteOffset := 8 }, { name := "space", type := 9, offset := 2, embedded := false, tag := "", pkgPath := "runnel/pick", byteOffset := 16 }], size := 3, bytes := 32, zero := .agg #[.int .i64 (0), .bool false, .string ⟨#[]⟩] }
theorem tyOk125 : TyOk Try.prog 125 ty125 := ⟨Try.underlying125, by kernel_rfl⟩
def ty126 : TI := { u := .struct #[{ name := "line", type := 3, offset := 0, embedded := false, tag := "", pkgPath := "runnel/pick", byteOffset := 0 }, { name := "last", type := 4, offset := 1, embedded := false, tag := "", pkgPath := "runnel/pick", byteOffset := 8 }, { name := "space", type := 9, offset := 2, embedded := false, tag := "", pkgPath := "runnel/pick", byteOffset := 16 }], size := 3, bytes := 32, zero := .agg #[.int .i64 (0), .bool false, .string ⟨#[]⟩] }
theorem tyOk126 : TyOk Try.prog 126 ty126 := ⟨Try.underlying126, by kernel_rfl⟩
def ty127 : TI := { u := .func #[124, 126] #[4, 4, 23] false, size := 1, bytes := 8, zero := .nilFunc }
theorem tyOk127 : TyOk Try.prog 127 ty127 := ⟨Try.underlying127, by kernel_rfl⟩
def ty129 : TI := { u := .func #[55, 39, 126] #[4, 23] false, size := 1, bytes := 8, zero := .nilFunc }
theorem tyOk129 : TyOk Try.prog 129 ty129 := ⟨Try.underlying129, by kernel_rfl⟩
def ty130 : TI := { u := .func #[55, 126] #[4] false, size := 1, bytes := 8, zero := .nilFunc }
theorem tyOk130 : TyOk Try.prog 130 ty130 := ⟨Try.underlying130, by kernel_rfl⟩
def ty131 : TI := { u := .pointer 133, size := 1, bytes := 8, zero := .pointer none }
theorem tyOk131 : TyOk Try.prog 131 ty131 := ⟨Try.underlying131, by kernel_rfl⟩
def ty132 : TI := { u := .struct #[{ name := "text", type := 44, offset := 0, embedded := false, tag := "", pkgPath := "runnel/subst", byteOffset := 0 }, { name := "full", type := 4, offset := 1, embedded := false, tag := "", pkgPath := "runnel/subst", byteOffset := 24 }], size := 2, bytes := 32, zero := .agg #[.slice none 0 0, .bool false] }
theorem tyOk132 : TyOk Try.prog 132 ty132 := ⟨Try.underlying132, by kernel_rfl⟩
def ty133 : TI := { u := .struct #[{ name := "text", type := 44, offset := 0, embedded := false, tag := "", pkgPath := "runnel/subst", byteOffset := 0 }, { name := "full", type := 4, offset := 1, embedded := false, tag := "", pkgPath := "runnel/subst", byteOffset := 24 }], size := 2, bytes := 32, zero := .agg #[.slice none 0 0, .bool false] }
theorem tyOk133 : TyOk Try.prog 133 ty133 := ⟨Try.underlying133, by kernel_rfl⟩
def ty135 : TI := { u := .func #[74, 9, 28] #[9, 23] false, size := 1, bytes := 8, zero := .nilFunc }
theorem tyOk135 : TyOk Try.prog 135 ty135 := ⟨Try.underlying135, by kernel_rfl⟩
def ty136 : TI := { u := .func #[9] #[] false, size := 1, bytes := 8, zero := .nilFunc }
theorem tyOk136 : TyOk Try.prog 136 ty136 := ⟨Try.underlying136, by kernel_rfl⟩
def ty137 : TI := { u := .pointer 143, size := 1, bytes := 8, zero := .pointer none }
theorem tyOk137 : TyOk Try.prog 137 ty137 := ⟨Try.underlying137, by kernel_rfl⟩
def ty138 : TI := { u := .struct #[{ name := "kids", type := 80, offset := 0, embedded := false, tag := "", pkgPath := "runnel/bre", byteOffset := 0 }, { name := "sizes", type := 89, offset := 1, embedded := false, tag := "", pkgPath := "runnel/bre", byteOffset := 24 }, { name := "group", type := 3, offset := 2, embedded := false, tag := "", pkgPath := "runnel/bre", byteOffset := 48 }, { name := "at", type := 3, offset := 3, embedded := false, tag := "", pkgPath := "runnel/bre", byteOffset := 56 }], size := 4, bytes := 64, zero := .agg #[.slice none 0 0, .slice none 0 0, .int .i64 (0), .int .i64 (0)] }
theorem tyOk138 : TyOk Try.prog 138 ty138 := ⟨Try.underlying138, by kernel_rfl⟩
def ty139 : TI := { u := .struct #[{ name := "kids", type := 80, offset := 0, embedded := false, tag := "", pkgPath := "runnel/bre", byteOffset := 0 }, { name := "sizes", type := 89, offset := 1, embedded := false, tag := "", pkgPath := "runnel/bre", byteOffset := 24 }, { name := "group", type := 3, offset := 2, embedded := false, tag := "", pkgPath := "runnel/bre", byteOffset := 48 }, { name := "at", type := 3, offset := 3, embedded := false, tag := "", pkgPath := "runnel/bre", byteOffset := 56 }], size := 4, bytes := 64, zero := .agg #[.slice none 0 0, .slice none 0 0, .int .i64 (0), .int .i64 (0)] }
theorem tyOk139 : TyOk Try.prog 139 ty139 := ⟨Try.underlying139, by kernel_rfl⟩
def ty140 : TI := { u := .slice 139, size := 1, bytes := 24, zero := .slice none 0 0 }
theorem tyOk140 : TyOk Try.prog 140 ty140 := ⟨Try.underlying140, by kernel_rfl⟩
def ty141 : TI := { u := .array 10 4, size := 10, bytes := 10, zero := .agg #[.bool false, .bool false, .bool false, .bool false, .bool false, .bool false, .bool false, .bool false, .bool false, .bool false] }
theorem tyOk141 : TyOk Try.prog 141 ty141 := ⟨Try.underlying141, by kernel_rfl⟩
def ty142 : TI := { u := .struct #[{ name := "frames", type := 140, offset := 0, embedded := false, tag := "", pkgPath := "runnel/bre", byteOffset := 0 }, { name := "groups", type := 3, offset := 1, embedded := false, tag := "", pkgPath := "runnel/bre", byteOffset := 24 }, { name := "shut", type := 141, offset := 2, embedded := false, tag := "", pkgPath := "runnel/bre", byteOffset := 32 }, { name := "size", type := 3, offset := 12, embedded := false, tag := "", pkgPath := "runnel/bre", byteOffset := 48 }], size := 13, bytes := 56, zero := .agg #[.slice none 0 0, .int .i64 (0), .bool false, .bool false, .bool false, .bool false, .bool false, .bool false, .bool false, .bool false, .bool false, .bool false, .int .i64 (0)] }
theorem tyOk142 : TyOk Try.prog 142 ty142 := ⟨Try.underlying142, by kernel_rfl⟩
def ty143 : TI := { u := .struct #[{ name := "frames", type := 140, offset := 0, embedded := false, tag := "", pkgPath := "runnel/bre", byteOffset := 0 }, { name := "groups", type := 3, offset := 1, embedded := false, tag := "", pkgPath := "runnel/bre", byteOffset := 24 }, { name := "shut", type := 141, offset := 2, embedded := false, tag := "", pkgPath := "runnel/bre", byteOffset := 32 }, { name := "size", type := 3, offset := 12, embedded := false, tag := "", pkgPath := "runnel/bre", byteOffset := 48 }], size := 13, bytes := 56, zero := .agg #[.slice none 0 0, .int .i64 (0), .bool false, .bool false, .bool false, .bool false, .bool false, .bool false, .bool false, .bool false, .bool false, .bool false, .int .i64 (0)] }
theorem tyOk143 : TyOk Try.prog 143 ty143 := ⟨Try.underlying143, by kernel_rfl⟩
def ty144 : TI := { u := .func #[176] #[] false, size := 1, bytes := 8, zero := .nilFunc }
theorem tyOk144 : TyOk Try.prog 144 ty144 := ⟨Try.underlying144, by kernel_rfl⟩
def ty145 : TI := { u := .func #[176] #[] false, size := 1, bytes := 8, zero := .nilFunc }
theorem tyOk145 : TyOk Try.prog 145 ty145 := ⟨Try.underlying145, by kernel_rfl⟩
def ty146 : TI := { u := .func #[9] #[145] false, size := 1, bytes := 8, zero := .nilFunc }
theorem tyOk146 : TyOk Try.prog 146 ty146 := ⟨Try.underlying146, by kernel_rfl⟩
def ty147 : TI := { u := .struct #[{ name := "kind", type := 3, offset := 0, embedded := false, tag := "", pkgPath := "runnel/bre", byteOffset := 0 }, { name := "at", type := 3, offset := 1, embedded := false, tag := "", pkgPath := "runnel/bre", byteOffset := 8 }, { name := "set", type := 79, offset := 2, embedded := false, tag := "", pkgPath := "runnel/bre", byteOffset := 16 }, { name := "lo", type := 3, offset := 6, embedded := false, tag := "", pkgPath := "runnel/bre", byteOffset := 48 }, { name := "hi", type := 3, offset := 7, embedded := false, tag := "", pkgPath := "runnel/bre", byteOffset := 56 }, { name := "e", type := 23, offset := 8, embedded := false, tag := "", pkgPath := "runnel/bre", byteOffset := 64 }], size := 9, bytes := 72, zero := .agg #[.int .i64 (0), .int .i64 (0), .int .u64 (0), .int .u64 (0), .int .u64 (0), .int .u64 (0), .int .i64 (0), .int .i64 (0), .int .i64 (0)] }
theorem tyOk147 : TyOk Try.prog 147 ty147 := ⟨Try.underlying147, by kernel_rfl⟩
def ty148 : TI := { u := .struct #[{ name := "kind", type := 3, offset := 0, embedded := false, tag := "", pkgPath := "runnel/bre", byteOffset := 0 }, { name := "at", type := 3, offset := 1, embedded := false, tag := "", pkgPath := "runnel/bre", byteOffset := 8 }, { name := "set", type := 79, offset := 2, embedded := false, tag := "", pkgPath := "runnel/bre", byteOffset := 16 }, { name := "lo", type := 3, offset := 6, embedded := false, tag := "", pkgPath := "runnel/bre", byteOffset := 48 }, { name := "hi", type := 3, offset := 7, embedded := false, tag := "", pkgPath := "runnel/bre", byteOffset := 56 }, { name := "e", type := 23, offset := 8, embedded := false, tag := "", pkgPath := "runnel/bre", byteOffset := 64 }], size := 9, bytes := 72, zero := .agg #[.int .i64 (0), .int .i64 (0), .int .u64 (0), .int .u64 (0), .int .u64 (0), .int .u64 (0), .int .i64 (0), .int .i64 (0), .int .i64 (0)] }
theorem tyOk148 : TyOk Try.prog 148 ty148 := ⟨Try.underlying148, by kernel_rfl⟩
def ty149 : TI := { u := .func #[148] #[23] false, size := 1, bytes := 8, zero := .nilFunc }
theorem tyOk149 : TyOk Try.prog 149 ty149 := ⟨Try.underlying149, by kernel_rfl⟩
def ty150 : TI := { u := .pointer 139, size := 1, bytes := 8, zero := .pointer none }
theorem tyOk150 : TyOk Try.prog 150 ty150 := ⟨Try.underlying150, by kernel_rfl⟩
def ty151 : TI := { u := .func #[] #[150] false, size := 1, bytes := 8, zero := .nilFunc }
theorem tyOk151 : TyOk Try.prog 151 ty151 := ⟨Try.underlying151, by kernel_rfl⟩
def ty152 : TI := { u := .struct #[{ name := "r", type := 91, offset := 0, embedded := false, tag := "", pkgPath := "runnel/ways", byteOffset := 0 }, { name := "at", type := 3, offset := 1, embedded := false, tag := "", pkgPath := "runnel/ways", byteOffset := 8 }], size := 2, bytes := 16, zero := .agg #[.pointer none, .int .i64 (0)] }
theorem tyOk152 : TyOk Try.prog 152 ty152 := ⟨Try.underlying152, by kernel_rfl⟩
def ty153 : TI := { u := .struct #[{ name := "r", type := 91, offset := 0, embedded := false, tag := "", pkgPath := "runnel/ways", byteOffset := 0 }, { name := "at", type := 3, offset := 1, embedded := false, tag := "", pkgPath := "runnel/ways", byteOffset := 8 }], size := 2, bytes := 16, zero := .agg #[.pointer none, .int .i64 (0)] }
theorem tyOk153 : TyOk Try.prog 153 ty153 := ⟨Try.underlying153, by kernel_rfl⟩
def ty155 : TI := { u := .func #[79, 5] #[4] false, size := 1, bytes := 8, zero := .nilFunc }
theorem tyOk155 : TyOk Try.prog 155 ty155 := ⟨Try.underlying155, by kernel_rfl⟩
def ty156 : TI := { u := .func #[89, 91] #[89] false, size := 1, bytes := 8, zero := .nilFunc }
theorem tyOk156 : TyOk Try.prog 156 ty156 := ⟨Try.underlying156, by kernel_rfl⟩
def ty157 : TI := { u := .func #[89, 91, 4] #[89] false, size := 1, bytes := 8, zero := .nilFunc }
theorem tyOk157 : TyOk Try.prog 157 ty157 := ⟨Try.underlying157, by kernel_rfl⟩
def ty158 : TI := { u := .func #[82] #[93] false, size := 1, bytes := 8, zero := .nilFunc }
theorem tyOk158 : TyOk Try.prog 158 ty158 := ⟨Try.underlying158, by kernel_rfl⟩
def ty159 : TI := { u := .slice 4, size := 1, bytes := 24, zero := .slice none 0 0 }
theorem tyOk159 : TyOk Try.prog 159 ty159 := ⟨Try.underlying159, by kernel_rfl⟩
def ty160 : TI := { u := .func #[103, 3] #[159] false, size := 1, bytes := 8, zero := .nilFunc }
theorem tyOk160 : TyOk Try.prog 160 ty160 := ⟨Try.underlying160, by kernel_rfl⟩
def ty161 : TI := { u := .slice 213, size := 1, bytes := 24, zero := .slice none 0 0 }
theorem tyOk161 : TyOk Try.prog 161 ty161 := ⟨Try.underlying161, by kernel_rfl⟩
def ty162 : TI := { u := .struct #[{ name := "out", type := 161, offset := 0, embedded := false, tag := "", pkgPath := "runnel/nfa", byteOffset := 0 }, { name := "back", type := 161, offset := 1, embedded := false, tag := "", pkgPath := "runnel/nfa", byteOffset := 24 }, { name := "end", type := 3, offset := 2, embedded := false, tag := "", pkgPath := "runnel/nfa", byteOffset := 48 }], size := 3, bytes := 56, zero := .agg #[.slice none 0 0, .slice none 0 0, .int .i64 (0)] }
theorem tyOk162 : TyOk Try.prog 162 ty162 := ⟨Try.underlying162, by kernel_rfl⟩
def ty163 : TI := { u := .struct #[{ name := "out", type := 161, offset := 0, embedded := false, tag := "", pkgPath := "runnel/nfa", byteOffset := 0 }, { name := "back", type := 161, offset := 1, embedded := false, tag := "", pkgPath := "runnel/nfa", byteOffset := 24 }, { name := "end", type := 3, offset := 2, embedded := false, tag := "", pkgPath := "runnel/nfa", byteOffset := 48 }], size := 3, bytes := 56, zero := .agg #[.slice none 0 0, .slice none 0 0, .int .i64 (0)] }
theorem tyOk163 : TyOk Try.prog 163 ty163 := ⟨Try.underlying163, by kernel_rfl⟩
def ty164 : TI := { u := .func #[91, 3] #[3] false, size := 1, bytes := 8, zero := .nilFunc }
theorem tyOk164 : TyOk Try.prog 164 ty164 := ⟨Try.underlying164, by kernel_rfl⟩
def ty165 : TI := { u := .func #[80, 3, 3] #[] false, size := 1, bytes := 8, zero := .nilFunc }
theorem tyOk165 : TyOk Try.prog 165 ty165 := ⟨Try.underlying165, by kernel_rfl⟩
def ty166 : TI := { u := .func #[91, 3, 3] #[4] false, size := 1, bytes := 8, zero := .nilFunc }
theorem tyOk166 : TyOk Try.prog 166 ty166 := ⟨Try.underlying166, by kernel_rfl⟩
def ty167 : TI := { u := .func #[28, 23] #[4] false, size := 1, bytes := 8, zero := .nilFunc }
theorem tyOk167 : TyOk Try.prog 167 ty167 := ⟨Try.underlying167, by kernel_rfl⟩
def ty168 : TI := { u := .pointer 170, size := 1, bytes := 8, zero := .pointer none }
theorem tyOk168 : TyOk Try.prog 168 ty168 := ⟨Try.underlying168, by kernel_rfl⟩
def ty169 : TI := { u := .struct #[{ name := "addr", type := 168, offset := 0, embedded := false, tag := "", pkgPath := "strings", byteOffset := 0 }, { name := "buf", type := 44, offset := 1, embedded := false, tag := "", pkgPath := "strings", byteOffset := 8 }], size := 2, bytes := 32, zero := .agg #[.pointer none, .slice none 0 0] }
theorem tyOk169 : TyOk Try.prog 169 ty169 := ⟨Try.underlying169, by kernel_rfl⟩
def ty170 : TI := { u := .struct #[{ name := "addr", type := 168, offset := 0, embedded := false, tag := "", pkgPath := "strings", byteOffset := 0 }, { name := "buf", type := 44, offset := 1, embedded := false, tag := "", pkgPath := "strings", byteOffset := 8 }], size := 2, bytes := 32, zero := .agg #[.pointer none, .slice none 0 0] }
theorem tyOk170 : TyOk Try.prog 170 ty170 := ⟨Try.underlying170, by kernel_rfl⟩
def ty171 : TI := { u := .func #[9, 28, 3] #[9] false, size := 1, bytes := 8, zero := .nilFunc }
theorem tyOk171 : TyOk Try.prog 171 ty171 := ⟨Try.underlying171, by kernel_rfl⟩
def ty175 : TI := { u := .func #[9] #[3, 173] false, size := 1, bytes := 8, zero := .nilFunc }
theorem tyOk175 : TyOk Try.prog 175 ty175 := ⟨Try.underlying175, by kernel_rfl⟩
def ty176 : TI := { u := .func #[148] #[4] false, size := 1, bytes := 8, zero := .nilFunc }
theorem tyOk176 : TyOk Try.prog 176 ty176 := ⟨Try.underlying176, by kernel_rfl⟩
def ty178 : TI := { u := .func #[9, 3, 4, 4] #[148, 3] false, size := 1, bytes := 8, zero := .nilFunc }
theorem tyOk178 : TyOk Try.prog 178 ty178 := ⟨Try.underlying178, by kernel_rfl⟩
def ty179 : TI := { u := .func #[82, 3] #[23] false, size := 1, bytes := 8, zero := .nilFunc }
theorem tyOk179 : TyOk Try.prog 179 ty179 := ⟨Try.underlying179, by kernel_rfl⟩
def ty180 : TI := { u := .func #[3] #[23] false, size := 1, bytes := 8, zero := .nilFunc }
theorem tyOk180 : TyOk Try.prog 180 ty180 := ⟨Try.underlying180, by kernel_rfl⟩
def ty181 : TI := { u := .func #[] #[23] false, size := 1, bytes := 8, zero := .nilFunc }
theorem tyOk181 : TyOk Try.prog 181 ty181 := ⟨Try.underlying181, by kernel_rfl⟩
def ty182 : TI := { u := .func #[3, 3] #[23] false, size := 1, bytes := 8, zero := .nilFunc }
theorem tyOk182 : TyOk Try.prog 182 ty182 := ⟨Try.underlying182, by kernel_rfl⟩
def ty183 : TI := { u := .func #[91] #[3] false, size := 1, bytes := 8, zero := .nilFunc }
theorem tyOk183 : TyOk Try.prog 183 ty183 := ⟨Try.underlying183, by kernel_rfl⟩
def ty184 : TI := { u := .func #[91] #[4] false, size := 1, bytes := 8, zero := .nilFunc }
theorem tyOk184 : TyOk Try.prog 184 ty184 := ⟨Try.underlying184, by kernel_rfl⟩
def ty185 : TI := { u := .func #[89] #[4] false, size := 1, bytes := 8, zero := .nilFunc }
theorem tyOk185 : TyOk Try.prog 185 ty185 := ⟨Try.underlying185, by kernel_rfl⟩
def ty186 : TI := { u := .func #[3, 3] #[3] false, size := 1, bytes := 8, zero := .nilFunc }
theorem tyOk186 : TyOk Try.prog 186 ty186 := ⟨Try.underlying186, by kernel_rfl⟩
def ty187 : TI := { u := .pointer 98, size := 1, bytes := 8, zero := .pointer none }
theorem tyOk187 : TyOk Try.prog 187 ty187 := ⟨Try.underlying187, by kernel_rfl⟩
def ty188 : TI := { u := .func #[161, 190, 3, 4] #[159] false, size := 1, bytes := 8, zero := .nilFunc }
theorem tyOk188 : TyOk Try.prog 188 ty188 := ⟨Try.underlying188, by kernel_rfl⟩
def ty189 : TI := { u := .struct #[{ name := "state", type := 3, offset := 0, embedded := false, tag := "", pkgPath := "runnel/nfa", byteOffset := 0 }, { name := "at", type := 3, offset := 1, embedded := false, tag := "", pkgPath := "runnel/nfa", byteOffset := 8 }], size := 2, bytes := 16, zero := .agg #[.int .i64 (0), .int .i64 (0)] }
theorem tyOk189 : TyOk Try.prog 189 ty189 := ⟨Try.underlying189, by kernel_rfl⟩
def ty190 : TI := { u := .struct #[{ name := "state", type := 3, offset := 0, embedded := false, tag := "", pkgPath := "runnel/nfa", byteOffset := 0 }, { name := "at", type := 3, offset := 1, embedded := false, tag := "", pkgPath := "runnel/nfa", byteOffset := 8 }], size := 2, bytes := 16, zero := .agg #[.int .i64 (0), .int .i64 (0)] }
theorem tyOk190 : TyOk Try.prog 190 ty190 := ⟨Try.underlying190, by kernel_rfl⟩
def ty191 : TI := { u := .func #[3, 3, 79] #[3] false, size := 1, bytes := 8, zero := .nilFunc }
theorem tyOk191 : TyOk Try.prog 191 ty191 := ⟨Try.underlying191, by kernel_rfl⟩
def ty192 : TI := { u := .func #[3, 3, 3, 79] #[] false, size := 1, bytes := 8, zero := .nilFunc }
theorem tyOk192 : TyOk Try.prog 192 ty192 := ⟨Try.underlying192, by kernel_rfl⟩
def ty193 : TI := { u := .func #[79] #[79] false, size := 1, bytes := 8, zero := .nilFunc }
theorem tyOk193 : TyOk Try.prog 193 ty193 := ⟨Try.underlying193, by kernel_rfl⟩
def ty194 : TI := { u := .func #[80, 80, 3, 3] #[89] false, size := 1, bytes := 8, zero := .nilFunc }
theorem tyOk194 : TyOk Try.prog 194 ty194 := ⟨Try.underlying194, by kernel_rfl⟩
def ty195 : TI := { u := .func #[91, 3] #[82] false, size := 1, bytes := 8, zero := .nilFunc }
theorem tyOk195 : TyOk Try.prog 195 ty195 := ⟨Try.underlying195, by kernel_rfl⟩
def ty196 : TI := { u := .slice 203, size := 1, bytes := 24, zero := .slice none 0 0 }
theorem tyOk196 : TyOk Try.prog 196 ty196 := ⟨Try.underlying196, by kernel_rfl⟩
def ty197 : TI := { u := .pointer 199, size := 1, bytes := 8, zero := .pointer none }
theorem tyOk197 : TyOk Try.prog 197 ty197 := ⟨Try.underlying197, by kernel_rfl⟩
def ty198 : TI := { u := .struct #[{ name := "r", type := 91, offset := 0, embedded := false, tag := "", pkgPath := "runnel/backmatch", byteOffset := 0 }, { name := "k", type := 3, offset := 1, embedded := false, tag := "", pkgPath := "runnel/backmatch", byteOffset := 8 }, { name := "i", type := 3, offset := 2, embedded := false, tag := "", pkgPath := "runnel/backmatch", byteOffset := 16 }, { name := "j", type := 3, offset := 3, embedded := false, tag := "", pkgPath := "runnel/backmatch", byteOffset := 24 }, { name := "next", type := 197, offset := 4, embedded := false, tag := "", pkgPath := "runnel/backmatch", byteOffset := 32 }], size := 5, bytes := 40, zero := .agg #[.pointer none, .int .i64 (0), .int .i64 (0), .int .i64 (0), .pointer none] }
theorem tyOk198 : TyOk Try.prog 198 ty198 := ⟨Try.underlying198, by kernel_rfl⟩
def ty199 : TI := { u := .struct #[{ name := "r", type := 91, offset := 0, embedded := false, tag := "", pkgPath := "runnel/backmatch", byteOffset := 0 }, { name := "k", type := 3, offset := 1, embedded := false, tag := "", pkgPath := "runnel/backmatch", byteOffset := 8 }, { name := "i", type := 3, offset := 2, embedded := false, tag := "", pkgPath := "runnel/backmatch", byteOffset := 16 }, { name := "j", type := 3, offset := 3, embedded := false, tag := "", pkgPath := "runnel/backmatch", byteOffset := 24 }, { name := "next", type := 197, offset := 4, embedded := false, tag := "", pkgPath := "runnel/backmatch", byteOffset := 32 }], size := 5, bytes := 40, zero := .agg #[.pointer none, .int .i64 (0), .int .i64 (0), .int .i64 (0), .pointer none] }
theorem tyOk199 : TyOk Try.prog 199 ty199 := ⟨Try.underlying199, by kernel_rfl⟩
def ty200 : TI := { u := .func #[197] #[89, 4] false, size := 1, bytes := 8, zero := .nilFunc }
theorem tyOk200 : TyOk Try.prog 200 ty200 := ⟨Try.underlying200, by kernel_rfl⟩
def ty201 : TI := { u := .func #[197] #[4] false, size := 1, bytes := 8, zero := .nilFunc }
theorem tyOk201 : TyOk Try.prog 201 ty201 := ⟨Try.underlying201, by kernel_rfl⟩
def ty202 : TI := { u := .struct #[{ name := "task", type := 197, offset := 0, embedded := false, tag := "", pkgPath := "runnel/backmatch", byteOffset := 0 }, { name := "ends", type := 89, offset := 1, embedded := false, tag := "", pkgPath := "runnel/backmatch", byteOffset := 8 }, { name := "spans", type := 28, offset := 2, embedded := false, tag := "", pkgPath := "runnel/backmatch", byteOffset := 32 }], size := 3, bytes := 56, zero := .agg #[.pointer none, .slice none 0 0, .slice none 0 0] }
theorem tyOk202 : TyOk Try.prog 202 ty202 := ⟨Try.underlying202, by kernel_rfl⟩
def ty203 : TI := { u := .struct #[{ name := "task", type := 197, offset := 0, embedded := false, tag := "", pkgPath := "runnel/backmatch", byteOffset := 0 }, { name := "ends", type := 89, offset := 1, embedded := false, tag := "", pkgPath := "runnel/backmatch", byteOffset := 8 }, { name := "spans", type := 28, offset := 2, embedded := false, tag := "", pkgPath := "runnel/backmatch", byteOffset := 32 }], size := 3, bytes := 56, zero := .agg #[.pointer none, .slice none 0 0, .slice none 0 0] }
theorem tyOk203 : TyOk Try.prog 203 ty203 := ⟨Try.underlying203, by kernel_rfl⟩
def ty204 : TI := { u := .func #[197, 3] #[197] false, size := 1, bytes := 8, zero := .nilFunc }
theorem tyOk204 : TyOk Try.prog 204 ty204 := ⟨Try.underlying204, by kernel_rfl⟩
def ty205 : TI := { u := .pointer 203, size := 1, bytes := 8, zero := .pointer none }
theorem tyOk205 : TyOk Try.prog 205 ty205 := ⟨Try.underlying205, by kernel_rfl⟩
def ty206 : TI := { u := .pointer 5, size := 1, bytes := 8, zero := .pointer none }
theorem tyOk206 : TyOk Try.prog 206 ty206 := ⟨Try.underlying206, by kernel_rfl⟩
def ty207 : TI := { u := .func #[9, 3, 4] #[148, 3] false, size := 1, bytes := 8, zero := .nilFunc }
theorem tyOk207 : TyOk Try.prog 207 ty207 := ⟨Try.underlying207, by kernel_rfl⟩
def ty209 : TI := { u := .func #[9, 3] #[79, 3, 23] false, size := 1, bytes := 8, zero := .nilFunc }
theorem tyOk209 : TyOk Try.prog 209 ty209 := ⟨Try.underlying209, by kernel_rfl⟩
def ty210 : TI := { u := .func #[3, 23] #[148] false, size := 1, bytes := 8, zero := .nilFunc }
theorem tyOk210 : TyOk Try.prog 210 ty210 := ⟨Try.underlying210, by kernel_rfl⟩
def ty211 : TI := { u := .func #[3, 5] #[148] false, size := 1, bytes := 8, zero := .nilFunc }
theorem tyOk211 : TyOk Try.prog 211 ty211 := ⟨Try.underlying211, by kernel_rfl⟩
def ty212 : TI := { u := .slice 190, size := 1, bytes := 24, zero := .slice none 0 0 }
theorem tyOk212 : TyOk Try.prog 212 ty212 := ⟨Try.underlying212, by kernel_rfl⟩
def ty213 : TI := { u := .slice 215, size := 1, bytes := 24, zero := .slice none 0 0 }
theorem tyOk213 : TyOk Try.prog 213 ty213 := ⟨Try.underlying213, by kernel_rfl⟩
def ty214 : TI := { u := .struct #[{ name := "kind", type := 3, offset := 0, embedded := false, tag := "", pkgPath := "runnel/nfa", byteOffset := 0 }, { name := "set", type := 79, offset := 1, embedded := false, tag := "", pkgPath := "runnel/nfa", byteOffset := 8 }, { name := "to", type := 3, offset := 5, embedded := false, tag := "", pkgPath := "runnel/nfa", byteOffset := 40 }], size := 6, bytes := 48, zero := .agg #[.int .i64 (0), .int .u64 (0), .int .u64 (0), .int .u64 (0), .int .u64 (0), .int .i64 (0)] }
theorem tyOk214 : TyOk Try.prog 214 ty214 := ⟨Try.underlying214, by kernel_rfl⟩
def ty215 : TI := { u := .struct #[{ name := "kind", type := 3, offset := 0, embedded := false, tag := "", pkgPath := "runnel/nfa", byteOffset := 0 }, { name := "set", type := 79, offset := 1, embedded := false, tag := "", pkgPath := "runnel/nfa", byteOffset := 8 }, { name := "to", type := 3, offset := 5, embedded := false, tag := "", pkgPath := "runnel/nfa", byteOffset := 40 }], size := 6, bytes := 48, zero := .agg #[.int .i64 (0), .int .u64 (0), .int .u64 (0), .int .u64 (0), .int .u64 (0), .int .i64 (0)] }
theorem tyOk215 : TyOk Try.prog 215 ty215 := ⟨Try.underlying215, by kernel_rfl⟩
def ty216 : TI := { u := .func #[79, 79, 217] #[79] false, size := 1, bytes := 8, zero := .nilFunc }
theorem tyOk216 : TyOk Try.prog 216 ty216 := ⟨Try.underlying216, by kernel_rfl⟩
def ty217 : TI := { u := .func #[77, 77] #[77] false, size := 1, bytes := 8, zero := .nilFunc }
theorem tyOk217 : TyOk Try.prog 217 ty217 := ⟨Try.underlying217, by kernel_rfl⟩
def ty218 : TI := { u := .func #[220, 80, 80] #[89] false, size := 1, bytes := 8, zero := .nilFunc }
theorem tyOk218 : TyOk Try.prog 218 ty218 := ⟨Try.underlying218, by kernel_rfl⟩
def ty219 : TI := { u := .struct #[{ name := "r", type := 91, offset := 0, embedded := false, tag := "", pkgPath := "runnel/backmatch", byteOffset := 0 }, { name := "k", type := 3, offset := 1, embedded := false, tag := "", pkgPath := "runnel/backmatch", byteOffset := 8 }, { name := "i", type := 3, offset := 2, embedded := false, tag := "", pkgPath := "runnel/backmatch", byteOffset := 16 }, { name := "j", type := 3, offset := 3, embedded := false, tag := "", pkgPath := "runnel/backmatch", byteOffset := 24 }], size := 4, bytes := 32, zero := .agg #[.pointer none, .int .i64 (0), .int .i64 (0), .int .i64 (0)] }
theorem tyOk219 : TyOk Try.prog 219 ty219 := ⟨Try.underlying219, by kernel_rfl⟩
def ty220 : TI := { u := .struct #[{ name := "r", type := 91, offset := 0, embedded := false, tag := "", pkgPath := "runnel/backmatch", byteOffset := 0 }, { name := "k", type := 3, offset := 1, embedded := false, tag := "", pkgPath := "runnel/backmatch", byteOffset := 8 }, { name := "i", type := 3, offset := 2, embedded := false, tag := "", pkgPath := "runnel/backmatch", byteOffset := 16 }, { name := "j", type := 3, offset := 3, embedded := false, tag := "", pkgPath := "runnel/backmatch", byteOffset := 24 }], size := 4, bytes := 32, zero := .agg #[.pointer none, .int .i64 (0), .int .i64 (0), .int .i64 (0)] }
theorem tyOk220 : TyOk Try.prog 220 ty220 := ⟨Try.underlying220, by kernel_rfl⟩
def ty221 : TI := { u := .unsafePointer, size := 1, bytes := 8, zero := .pointer none }
theorem tyOk221 : TyOk Try.prog 221 ty221 := ⟨Try.underlying221, by kernel_rfl⟩
def ty222 : TI := { u := .func #[221] #[221] false, size := 1, bytes := 8, zero := .nilFunc }
theorem tyOk222 : TyOk Try.prog 222 ty222 := ⟨Try.underlying222, by kernel_rfl⟩
def ty224 : TI := { u := .func #[9, 3] #[3, 3, 3, 4] false, size := 1, bytes := 8, zero := .nilFunc }
theorem tyOk224 : TyOk Try.prog 224 ty224 := ⟨Try.underlying224, by kernel_rfl⟩
def ty225 : TI := { u := .pointer 227, size := 1, bytes := 8, zero := .pointer none }
theorem tyOk225 : TyOk Try.prog 225 ty225 := ⟨Try.underlying225, by kernel_rfl⟩
def ty226 : TI := { u := .struct #[{ name := "text", type := 9, offset := 0, embedded := false, tag := "", pkgPath := "runnel/bracket", byteOffset := 0 }, { name := "at", type := 3, offset := 1, embedded := false, tag := "", pkgPath := "runnel/bracket", byteOffset := 16 }, { name := "e", type := 23, offset := 2, embedded := false, tag := "", pkgPath := "runnel/bracket", byteOffset := 24 }], size := 3, bytes := 32, zero := .agg #[.string ⟨#[]⟩, .int .i64 (0), .int .i64 (0)] }
theorem tyOk226 : TyOk Try.prog 226 ty226 := ⟨Try.underlying226, by kernel_rfl⟩
def ty227 : TI := { u := .struct #[{ name := "text", type := 9, offset := 0, embedded := false, tag := "", pkgPath := "runnel/bracket", byteOffset := 0 }, { name := "at", type := 3, offset := 1, embedded := false, tag := "", pkgPath := "runnel/bracket", byteOffset := 16 }, { name := "e", type := 23, offset := 2, embedded := false, tag := "", pkgPath := "runnel/bracket", byteOffset := 24 }], size := 3, bytes := 32, zero := .agg #[.string ⟨#[]⟩, .int .i64 (0), .int .i64 (0)] }
theorem tyOk227 : TyOk Try.prog 227 ty227 := ⟨Try.underlying227, by kernel_rfl⟩
def ty228 : TI := { u := .func #[79, 79] #[79] false, size := 1, bytes := 8, zero := .nilFunc }
theorem tyOk228 : TyOk Try.prog 228 ty228 := ⟨Try.underlying228, by kernel_rfl⟩
def ty229 : TI := { u := .func #[] #[79] false, size := 1, bytes := 8, zero := .nilFunc }
theorem tyOk229 : TyOk Try.prog 229 ty229 := ⟨Try.underlying229, by kernel_rfl⟩
def ty230 : TI := { u := .func #[9] #[79] false, size := 1, bytes := 8, zero := .nilFunc }
theorem tyOk230 : TyOk Try.prog 230 ty230 := ⟨Try.underlying230, by kernel_rfl⟩
def ty232 : TI := { u := .func #[9, 3] #[3, 3] false, size := 1, bytes := 8, zero := .nilFunc }
theorem tyOk232 : TyOk Try.prog 232 ty232 := ⟨Try.underlying232, by kernel_rfl⟩
def ty234 : TI := { u := .func #[] #[79, 5, 4] false, size := 1, bytes := 8, zero := .nilFunc }
theorem tyOk234 : TyOk Try.prog 234 ty234 := ⟨Try.underlying234, by kernel_rfl⟩
def ty236 : TI := { u := .func #[5, 5] #[79, 23] false, size := 1, bytes := 8, zero := .nilFunc }
theorem tyOk236 : TyOk Try.prog 236 ty236 := ⟨Try.underlying236, by kernel_rfl⟩
def ty237 : TI := { u := .func #[238, 5] #[] false, size := 1, bytes := 8, zero := .nilFunc }
theorem tyOk237 : TyOk Try.prog 237 ty237 := ⟨Try.underlying237, by kernel_rfl⟩
def ty238 : TI := { u := .pointer 79, size := 1, bytes := 8, zero := .pointer none }
theorem tyOk238 : TyOk Try.prog 238 ty238 := ⟨Try.underlying238, by kernel_rfl⟩
def ty239 : TI := { u := .func #[9, 5] #[3] false, size := 1, bytes := 8, zero := .nilFunc }
theorem tyOk239 : TyOk Try.prog 239 ty239 := ⟨Try.underlying239, by kernel_rfl⟩
def ty241 : TI := { u := .func #[] #[9, 5] false, size := 1, bytes := 8, zero := .nilFunc }
theorem tyOk241 : TyOk Try.prog 241 ty241 := ⟨Try.underlying241, by kernel_rfl⟩
def ty242 : TI := { u := .func #[9] #[79, 23] false, size := 1, bytes := 8, zero := .nilFunc }
theorem tyOk242 : TyOk Try.prog 242 ty242 := ⟨Try.underlying242, by kernel_rfl⟩
def ty243 : TI := { u := .func #[9, 9] #[3] false, size := 1, bytes := 8, zero := .nilFunc }
theorem tyOk243 : TyOk Try.prog 243 ty243 := ⟨Try.underlying243, by kernel_rfl⟩
def ty245 : TI := { u := .func #[9, 5] #[4, 4] false, size := 1, bytes := 8, zero := .nilFunc }
theorem tyOk245 : TyOk Try.prog 245 ty245 := ⟨Try.underlying245, by kernel_rfl⟩
def ty246 : TI := { u := .func #[3] #[3] false, size := 1, bytes := 8, zero := .nilFunc }
theorem tyOk246 : TyOk Try.prog 246 ty246 := ⟨Try.underlying246, by kernel_rfl⟩
def ty247 : TI := { u := .int .u64, size := 1, bytes := 8, zero := .int .u64 (0) }
theorem tyOk247 : TyOk Try.prog 247 ty247 := ⟨Try.underlying247, by kernel_rfl⟩
def ty248 : TI := { u := .int .u32, size := 1, bytes := 4, zero := .int .u32 (0) }
theorem tyOk248 : TyOk Try.prog 248 ty248 := ⟨Try.underlying248, by kernel_rfl⟩
def ty250 : TI := { u := .func #[9] #[248, 248] false, size := 1, bytes := 8, zero := .nilFunc }
theorem tyOk250 : TyOk Try.prog 250 ty250 := ⟨Try.underlying250, by kernel_rfl⟩
def ty258 : TI := { u := .func #[221, 221] #[4] false, size := 1, bytes := 8, zero := .nilFunc }
theorem tyOk258 : TyOk Try.prog 258 ty258 := ⟨Try.underlying258, by kernel_rfl⟩
def TTl : List (Nat × TI) := [(1, ty1), (2, ty2), (3, ty3), (4, ty4), (5, ty5), (9, ty9), (12, ty12), (21, ty21), (22, ty22), (23, ty23), (25, ty25), (26, ty26), (27, ty27), (28, ty28), (30, ty30), (31, ty31), (32, ty32), (33, ty33), (34, ty34), (36, ty36), (37, ty37), (38, ty38), (39, ty39), (40, ty40), (41, ty41), (42, ty42), (43, ty43), (44, ty44), (45, ty45), (47, ty47), (48, ty48), (50, ty50), (51, ty51), (53, ty53), (54, ty54), (55, ty55), (56, ty56), (57, ty57), (58, ty58), (59, ty59), (60, ty60), (62, ty62), (63, ty63), (64, ty64), (65, ty65), (66, ty66), (67, ty67), (69, ty69), (70, ty70), (71, ty71), (72, ty72), (73, ty73), (74, ty74), (76, ty76), (77, ty77), (78, ty78), (79, ty79), (80, ty80), (81, ty81), (82, ty82), (84, ty84), (85, ty85), (86, ty86), (87, ty87), (88, ty88), (89, ty89), (90, ty90), (91, ty91), (92, ty92), (93, ty93), (95, ty95), (96, ty96), (97, ty97), (98, ty98), (99, ty99), (100, ty100), (102, ty102), (103, ty103), (104, ty104), (105, ty105), (106, ty106), (107, ty107), (108, ty108), (109, ty109), (110, ty110), (111, ty111), (112, ty112), (113, ty113), (114, ty114), (115, ty115), (116, ty116), (117, ty117), (118, ty118), (119, ty119), (121, ty121), (122, ty122), (123, ty123), (124, ty124), (125, ty125), (126, ty126), (127, ty127), (129, ty129), (130, ty130), (131, ty131), (132, ty132), (133, ty133), (135, ty135), (136, ty136), (137, ty137), (138, ty138), (139, ty139), (140, ty140), (141, ty141), (142, ty142), (143, ty143), (144, ty144), (145, ty145), (146, ty146), (147, ty147), (148, ty148), (149, ty149), (150, ty150), (151, ty151), (152, ty152), (153, ty153), (155, ty155), (156, ty156), (157, ty157), (158, ty158), (159, ty159), (160, ty160), (161, ty161), (162, ty162), (163, ty163), (164, ty164), (165, ty165), (166, ty166), (167, ty167), (168, ty168), (169, ty169), (170, ty170), (171, ty171), (175, ty175), (176, ty176), (178, ty178), (179, ty179), (180, ty180), (181, ty181), (182, ty182), (183, ty183), (184, ty184), (185, ty185), (186, ty186), (187, ty187), (188, ty188), (189, ty189), (190, ty190), (191, ty191), (192, ty192), (193, ty193), (194, ty194), (195, ty195), (196, ty196), (197, ty197), (198, ty198), (199, ty199), (200, ty200), (201, ty201), (202, ty202), (203, ty203), (204, ty204), (205, ty205), (206, ty206), (207, ty207), (209, ty209), (210, ty210), (211, ty211), (212, ty212), (213, ty213), (214, ty214), (215, ty215), (216, ty216), (217, ty217), (218, ty218), (219, ty219), (220, ty220), (221, ty221), (222, ty222), (224, ty224), (225, ty225), (226, ty226), (227, ty227), (228, ty228), (229, ty229), (230, ty230), (232, ty232), (234, ty234), (236, ty236), (237, ty237), (238, ty238), (239, ty239), (241, ty241), (242, ty242), (243, ty243), (245, ty245), (246, ty246), (247, ty247), (248, ty248), (250, ty250), (258, ty258)]
def TB : TyTab Try.prog := tabOf TTl ⟨tyOk1, tyOk2, tyOk3, tyOk4, tyOk5, tyOk9, tyOk12, tyOk21, tyOk22, tyOk23, tyOk25, tyOk26, tyOk27, tyOk28, tyOk30, tyOk31, tyOk32, tyOk33, tyOk34, tyOk36, tyOk37, tyOk38, tyOk39, tyOk40, tyOk41, tyOk42, tyOk43, tyOk44, tyOk45, tyOk47, tyOk48, tyOk50, tyOk51, tyOk53, tyOk54, tyOk55, tyOk56, tyOk57, tyOk58, tyOk59, tyOk60, tyOk62, tyOk63, tyOk64, tyOk65, tyOk66, tyOk67, tyOk69, tyOk70, tyOk71, tyOk72, tyOk73, tyOk74, tyOk76, tyOk77, tyOk78, tyOk79, tyOk80, tyOk81, tyOk82, tyOk84, tyOk85, tyOk86, tyOk87, tyOk88, tyOk89, tyOk90, tyOk91, tyOk92, tyOk93, tyOk95, tyOk96, tyOk97, tyOk98, tyOk99, tyOk100, tyOk102, tyOk103, tyOk104, tyOk105, tyOk106, tyOk107, tyOk108, tyOk109, tyOk110, tyOk111, tyOk112, tyOk113, tyOk114, tyOk115, tyOk116, tyOk117, tyOk118, tyOk119, tyOk121, tyOk122, tyOk123, tyOk124, tyOk125, tyOk126, tyOk127, tyOk129, tyOk130, tyOk131, tyOk132, tyOk133, tyOk135, tyOk136, tyOk137, tyOk138, tyOk139, tyOk140, tyOk141, tyOk142, tyOk143, tyOk144, tyOk145, tyOk146, tyOk147, tyOk148, tyOk149, tyOk150, tyOk151, tyOk152, tyOk153, tyOk155, tyOk156, tyOk157, tyOk158, tyOk159, tyOk160, tyOk161, tyOk162, tyOk163, tyOk164, tyOk165, tyOk166, tyOk167, tyOk168, tyOk169, tyOk170, tyOk171, tyOk175, tyOk176, tyOk178, tyOk179, tyOk180, tyOk181, tyOk182, tyOk183, tyOk184, tyOk185, tyOk186, tyOk187, tyOk188, tyOk189, tyOk190, tyOk191, tyOk192, tyOk193, tyOk194, tyOk195, tyOk196, tyOk197, tyOk198, tyOk199, tyOk200, tyOk201, tyOk202, tyOk203, tyOk204, tyOk205, tyOk206, tyOk207, tyOk209, tyOk210, tyOk211, tyOk212, tyOk213, tyOk214, tyOk215, tyOk216, tyOk217, tyOk218, tyOk219, tyOk220, tyOk221, tyOk222, tyOk224, tyOk225, tyOk226, tyOk227, tyOk228, tyOk229, tyOk230, tyOk232, tyOk234, tyOk236, tyOk237, tyOk238, tyOk239, tyOk241, tyOk242, tyOk243, tyOk245, tyOk246, tyOk247, tyOk248, tyOk250, tyOk258, trivial⟩
theorem mixed : Try.prog.follows .mixedOrders = true := Try.checked.mixed
theorem ent18 : Enters Try.prog 18 := enters_of Try.func18 (by kernel_rfl) rfl
theorem ent22 : Enters Try.prog 22 := enters_of Try.func22 (by kernel_rfl) rfl
theorem ent36 : Enters Try.prog 36 := enters_of Try.func36 (by kernel_rfl) rfl
theorem ent38 : Enters Try.prog 38 := enters_of Try.func38 (by kernel_rfl) rfl
theorem ent39 : Enters Try.prog 39 := enters_of Try.func39 (by kernel_rfl) rfl
theorem ent40 : Enters Try.prog 40 := enters_of Try.func40 (by kernel_rfl) rfl
theorem ent42 : Enters Try.prog 42 := enters_of Try.func42 (by kernel_rfl) rfl
theorem ent43 : Enters Try.prog 43 := enters_of Try.func43 (by kernel_rfl) rfl
theorem ent44 : Enters Try.prog 44 := enters_of Try.func44 (by kernel_rfl) rfl
theorem ent45 : Enters Try.prog 45 := enters_of Try.func45 (by kernel_rfl) rfl
theorem ent48 : Enters Try.prog 48 := enters_of Try.func48 (by kernel_rfl) rfl
theorem ent53 : Enters Try.prog 53 := enters_of Try.func53 (by kernel_rfl) rfl
theorem ent55 : Enters Try.prog 55 := enters_of Try.func55 (by kernel_rfl) rfl
theorem ent56 : Enters Try.prog 56 := enters_of Try.func56 (by kernel_rfl) rfl
theorem ent57 : Enters Try.prog 57 := enters_of Try.func57 (by kernel_rfl) rfl
theorem ent58 : Enters Try.prog 58 := enters_of Try.func58 (by kernel_rfl) rfl
theorem ent59 : Enters Try.prog 59 := enters_of Try.func59 (by kernel_rfl) rfl
theorem ent60 : Enters Try.prog 60 := enters_of Try.func60 (by kernel_rfl) rfl
theorem ent63 : Enters Try.prog 63 := enters_of Try.func63 (by kernel_rfl) rfl
theorem ent64 : Enters Try.prog 64 := enters_of Try.func64 (by kernel_rfl) rfl
theorem ent65 : Enters Try.prog 65 := enters_of Try.func65 (by kernel_rfl) rfl
theorem ent66 : Enters Try.prog 66 := enters_of Try.func66 (by kernel_rfl) rfl
theorem ent67 : Enters Try.prog 67 := enters_of Try.func67 (by kernel_rfl) rfl
theorem ent68 : Enters Try.prog 68 := enters_of Try.func68 (by kernel_rfl) rfl
theorem ent70 : Enters Try.prog 70 := enters_of Try.func70 (by kernel_rfl) rfl
theorem ent72 : Enters Try.prog 72 := enters_of Try.func72 (by kernel_rfl) rfl
theorem ent73 : Enters Try.prog 73 := enters_of Try.func73 (by kernel_rfl) rfl
theorem ent74 : Enters Try.prog 74 := enters_of Try.func74 (by kernel_rfl) rfl
theorem ent75 : Enters Try.prog 75 := enters_of Try.func75 (by kernel_rfl) rfl
theorem ent76 : Enters Try.prog 76 := enters_of Try.func76 (by kernel_rfl) rfl
theorem ent77 : Enters Try.prog 77 := enters_of Try.func77 (by kernel_rfl) rfl
theorem ent78 : Enters Try.prog 78 := enters_of Try.func78 (by kernel_rfl) rfl
theorem ent79 : Enters Try.prog 79 := enters_of Try.func79 (by kernel_rfl) rfl
theorem ent80 : Enters Try.prog 80 := enters_of Try.func80 (by kernel_rfl) rfl
theorem ent81 : Enters Try.prog 81 := enters_of Try.func81 (by kernel_rfl) rfl
theorem ent82 : Enters Try.prog 82 := enters_of Try.func82 (by kernel_rfl) rfl
theorem ent83 : Enters Try.prog 83 := enters_of Try.func83 (by kernel_rfl) rfl
theorem ent85 : Enters Try.prog 85 := enters_of Try.func85 (by kernel_rfl) rfl
theorem ent86 : Enters Try.prog 86 := enters_of Try.func86 (by kernel_rfl) rfl
theorem ent87 : Enters Try.prog 87 := enters_of Try.func87 (by kernel_rfl) rfl
theorem ent88 : Enters Try.prog 88 := enters_of Try.func88 (by kernel_rfl) rfl
theorem ent89 : Enters Try.prog 89 := enters_of Try.func89 (by kernel_rfl) rfl
theorem ent90 : Enters Try.prog 90 := enters_of Try.func90 (by kernel_rfl) rfl
theorem ent91 : Enters Try.prog 91 := enters_of Try.func91 (by kernel_rfl) rfl
theorem ent92 : Enters Try.prog 92 := enters_of Try.func92 (by kernel_rfl) rfl
theorem ent93 : Enters Try.prog 93 := enters_of Try.func93 (by kernel_rfl) rfl
theorem ent97 : Enters Try.prog 97 := enters_of Try.func97 (by kernel_rfl) rfl
theorem ent98 : Enters Try.prog 98 := enters_of Try.func98 (by kernel_rfl) rfl
theorem ent99 : Enters Try.prog 99 := enters_of Try.func99 (by kernel_rfl) rfl
theorem ent100 : Enters Try.prog 100 := enters_of Try.func100 (by kernel_rfl) rfl
theorem ent101 : Enters Try.prog 101 := enters_of Try.func101 (by kernel_rfl) rfl
theorem ent102 : Enters Try.prog 102 := enters_of Try.func102 (by kernel_rfl) rfl
theorem ent103 : Enters Try.prog 103 := enters_of Try.func103 (by kernel_rfl) rfl
theorem ent104 : Enters Try.prog 104 := enters_of Try.func104 (by kernel_rfl) rfl
theorem ent107 : Enters Try.prog 107 := enters_of Try.func107 (by kernel_rfl) rfl
theorem ent108 : Enters Try.prog 108 := enters_of Try.func108 (by kernel_rfl) rfl
theorem ent109 : Enters Try.prog 109 := enters_of Try.func109 (by kernel_rfl) rfl
theorem ent110 : Enters Try.prog 110 := enters_of Try.func110 (by kernel_rfl) rfl
theorem ent111 : Enters Try.prog 111 := enters_of Try.func111 (by kernel_rfl) rfl
theorem ent112 : Enters Try.prog 112 := enters_of Try.func112 (by kernel_rfl) rfl
theorem ent113 : Enters Try.prog 113 := enters_of Try.func113 (by kernel_rfl) rfl
theorem ent114 : Enters Try.prog 114 := enters_of Try.func114 (by kernel_rfl) rfl
theorem ent115 : Enters Try.prog 115 := enters_of Try.func115 (by kernel_rfl) rfl
theorem ent116 : Enters Try.prog 116 := enters_of Try.func116 (by kernel_rfl) rfl
theorem ent117 : Enters Try.prog 117 := enters_of Try.func117 (by kernel_rfl) rfl
theorem ent118 : Enters Try.prog 118 := enters_of Try.func118 (by kernel_rfl) rfl
theorem ent119 : Enters Try.prog 119 := enters_of Try.func119 (by kernel_rfl) rfl
theorem ent120 : Enters Try.prog 120 := enters_of Try.func120 (by kernel_rfl) rfl
theorem ent121 : Enters Try.prog 121 := enters_of Try.func121 (by kernel_rfl) rfl
theorem ent122 : Enters Try.prog 122 := enters_of Try.func122 (by kernel_rfl) rfl
theorem ent123 : Enters Try.prog 123 := enters_of Try.func123 (by kernel_rfl) rfl
end Go.Proofs.Ytblpgpgbnlhjlaa
namespace Go.Proofs.Ytblpgpgbnlhjlaa
open Go Go.RowKit Sl
set_option maxRecDepth 100000
set_option maxHeartbeats 8000000
set_option linter.unusedVariables false
set_option linter.unusedSimpArgs false
attribute [local irreducible] ES EL PX wps
abbrev QA := Option Addr × Nat
abbrev HB (g : Nat) (used : Bool) (ad : Option Addr) (cap : Nat) (bs : List UInt8) : List HA := [HA.blk g (.cells #[.pointer (if used then some ⟨g, 0, none⟩ else none), .slice ad bs.length cap] 170), HA.buf (.slice ad bs.length cap) 5 bs.length (bs.map Uv)]
theorem ext_noEscape (g : Nat) (w : World) : (callFunc 106 #[Pv g 0]).run Try.prog w = .ok (.value (Pv g 0)) w := by
  rw [run_callFunc_extern (e := Extern.AbiNoEscape.same) Try.func106 (by kernel_rfl) (by kernel_rfl) (by kernel_rfl) (by kernel_rfl)]
  rfl
theorem copyCheck_c (g : Nat) (u : Bool) (v : Value) : Mut Try.prog 97 #[Pv g 0] [HA.blk g (.cells #[.pointer (if u then some ⟨g, 0, none⟩ else none), v] 170)] (fun _ : Unit => .tuple #[]) (fun _ => [HA.blk g (.cells #[Pv g 0, v] 170)]) := by
  intro w0 B R w h
  replace h : Sat w0 B (HA.blk g (.cells #[.pointer (if u then some ⟨g, 0, none⟩ else none), v] 170) :: R) w := h
  refine calls_of_ES TB Try.func97 rfl _ Try.ntmps97 rfl h ?_
  cases u
  · refine .go ?_; repeat constructor
    refine EL.move rfl rfl rfl ?_
    refine EL.nilCheck rfl rfl rfl ?_
    refine EL.fieldAddr rfl rfl rfl rfl rfl rfl rfl rfl ?_
    (apply EL.loadB; exact rfl; exact rfl; exact rfl; exact rfl; exact rfl; (case hm => repeat constructor); exact rfl)
    refine EL.eqlPn (a := none) rfl rfl rfl rfl rfl rfl ?_
    refine .go ?_; repeat constructor
    refine ES.condT rfl ?_
    refine .go ?_; repeat constructor
    refine EL.move rfl rfl rfl ?_
    refine EL.move rfl rfl rfl ?_
    refine EL.ofRV (RV.toUnsafe rfl rfl rfl rfl rfl rfl (by decide) (by repeat constructor) (by simp)) rfl rfl rfl (by intro c h; cases h) ?_
    refine EL.callE rfl rfl rfl rfl (ext_noEscape g) ?_
    refine EL.ofRV (RV.fromUnsafe rfl rfl rfl rfl rfl rfl (by repeat constructor) (by kernel_rfl)) rfl rfl rfl (by intro c h; cases h) ?_
    refine EL.nilCheck rfl rfl rfl ?_
    refine EL.fieldAddr rfl rfl rfl rfl rfl rfl rfl rfl ?_
    (apply EL.storeB; exact rfl; exact rfl; exact rfl; exact rfl; exact rfl; exact rfl; (case p => repeat constructor); exact (by first | decide | exact Nat.le_of_ble_eq_true rfl | simp))
    refine .go ?_; repeat constructor
    exact PX.end rfl Try.results97 .nil (fun w hs => ⟨(), rfl, hs.ent (.i (by repeat constructor))⟩)
  · refine .go ?_; repeat constructor
    refine EL.move rfl rfl rfl ?_
    refine EL.nilCheck rfl rfl rfl ?_
    refine EL.fieldAddr rfl rfl rfl rfl rfl rfl rfl rfl ?_
    (apply EL.loadB; exact rfl; exact rfl; exact rfl; exact rfl; exact rfl; (case hm => repeat constructor); exact rfl)
    refine EL.eqlPn (a := some ⟨g, 0, none⟩) rfl rfl rfl rfl rfl rfl ?_
    refine .go ?_; repeat constructor
    refine ES.condF rfl ?_
    refine .go ?_; repeat constructor
    refine EL.move rfl rfl rfl ?_
    refine EL.nilCheck rfl rfl rfl ?_
    refine EL.fieldAddr rfl rfl rfl rfl rfl rfl rfl rfl ?_
    (apply EL.loadB; exact rfl; exact rfl; exact rfl; exact rfl; exact rfl; (case hm => repeat constructor); exact rfl)
    refine EL.move rfl rfl rfl ?_
    refine EL.ofRV (RV.neqPs rfl rfl rfl rfl rfl) rfl rfl rfl (by intro c h; cases h) ?_
    refine .go ?_; repeat constructor
    refine ES.condF rfl ?_
    refine .go ?_; repeat constructor
    exact PX.end rfl Try.results97 .nil (fun w hs => ⟨(), rfl, hs.ent (.i (by repeat constructor))⟩)
theorem writeString_c (g : Nat) (u : Bool) (ad : Option Addr) (cap : Nat) (bs l : List UInt8) (hb : bs.length + l.length ≤ 140737488355328) : Mut Try.prog 73 #[Pv g 0, Sv l] (HB g u ad cap bs) (fun _ : QA => .tuple #[Iv l.length, .nilIface]) (fun x => HB g true x.1 x.2 (bs ++ l)) := by
  intro w0 B R w h
  replace h : Sat w0 B (HA.blk g (.cells #[.pointer (if u then some ⟨g, 0, none⟩ else none), .slice ad bs.length cap] 170) :: HA.buf (.slice ad bs.length cap) 5 bs.length (bs.map Uv) :: R) w := h
  refine calls_of_ES TB Try.func73 rfl _ Try.ntmps73 rfl h ?_
  refine .go ?_; repeat constructor
  refine EL.assign rfl rfl rfl ?_
  refine EL.assign rfl rfl rfl ?_
  refine .go ?_; repeat constructor
  refine EL.move rfl rfl rfl ?_
  refine EL.callM1 rfl rfl rfl ent97 rfl (copyCheck_c g u (.slice ad bs.length cap)) (by repeat constructor) ?_
  refine .go ?_; repeat constructor
  have e1 : (bs ++ l).length = bs.length + l.length := by simp
  have e2 : (bs ++ l).map Uv = bs.map Uv ++ l.map Uv := by simp
  refine .go ?_; repeat constructor
  refine EL.move rfl rfl rfl ?_
  refine EL.move rfl rfl rfl ?_
  refine EL.nilCheck rfl rfl rfl ?_
  refine EL.fieldAddr rfl rfl rfl rfl rfl rfl rfl rfl ?_
  (apply EL.loadB; exact rfl; exact rfl; exact rfl; exact rfl; exact rfl; (case hm => repeat constructor); exact rfl)
  refine EL.move rfl rfl rfl ?_
  (refine EL.appendB rfl rfl rfl rfl rfl rfl rfl rfl rfl rfl rfl rfl (by repeat constructor) hb ?_; intro ad2 cap2)
  refine EL.nilCheck rfl rfl rfl ?_
  refine EL.fieldAddr rfl rfl rfl rfl rfl rfl rfl rfl ?_
  (apply EL.storeB; exact rfl; exact rfl; exact rfl; exact rfl; exact rfl; exact rfl; (case p => repeat constructor); exact (by first | decide | exact Nat.le_of_ble_eq_true rfl | simp))
  refine .go ?_; repeat constructor
  refine EL.move rfl rfl rfl ?_
  refine EL.lenS rfl rfl rfl rfl rfl ?_
  refine EL.assign rfl rfl rfl ?_
  refine EL.assign rfl rfl rfl ?_
  refine .go ?_; repeat constructor
  exact PX.ret rfl Try.results73 (.cons (.tmp rfl) (.cons (.tmp rfl) .nil)) (fun w hs => ⟨(ad2, cap2), rfl, by
    show Sat w0 B (HA.blk g (.cells #[Pv g 0, .slice ad2 (bs ++ l).length cap2] 170) :: HA.buf (.slice ad2 (bs ++ l).length cap2) 5 (bs ++ l).length ((bs ++ l).map Uv) :: R) w
    rw [e1, e2]
    exact hs.ent (.i (by repeat constructor))⟩)
theorem bstring_c (g : Nat) (u : Bool) (ad : Option Addr) (cap : Nat) (bs : List UInt8) (hb : bs.length ≤ 9223372036854775807) : Mut Try.prog 74 #[Pv g 0] (HB g u ad cap bs) (fun _ : Unit => Sv bs) (fun _ => HB g u ad cap bs) := by
  intro w0 B R w h
  replace h : Sat w0 B (HA.blk g (.cells #[.pointer (if u then some ⟨g, 0, none⟩ else none), .slice ad bs.length cap] 170) :: HA.buf (.slice ad bs.length cap) 5 bs.length (bs.map Uv) :: R) w := h
  refine calls_of_ES TB Try.func74 rfl _ Try.ntmps74 rfl h ?_
  refine .go ?_; repeat constructor
  refine EL.assign rfl rfl rfl ?_
  repeat (first | apply EL.nil | apply ES.seq | apply ES.skip)
  refine ES.draw (X := Unit) (fun _ => [(2, Sv bs)]) (fun _ => HA.blk g (.cells #[.pointer (if u then some ⟨g, 0, none⟩ else none), .slice ad bs.length cap] 170) :: HA.buf (.slice ad bs.length cap) 5 bs.length (bs.map Uv) :: R) [HA.blk g (.cells #[.pointer (if u then some ⟨g, 0, none⟩ else none), .slice ad bs.length cap] 170), HA.buf (.slice ad bs.length cap) 5 bs.length (bs.map Uv)] mixed (.i (by repeat constructor)) ?_ (fun _ => ?_)
  · refine ED.take 0 rfl (by decide +kernel) CutX.no_panic (by decide +kernel) rfl rfl rfl (RV.move rfl) ?_
    refine ED.take 1 rfl (by decide +kernel) CutX.no_panic (by decide +kernel) rfl rfl rfl (RV.nilCheck rfl) ?_
    refine ED.take 2 rfl (by decide +kernel) CutX.no_panic (by decide +kernel) rfl rfl rfl (RV.fieldAddr rfl rfl rfl rfl rfl rfl) ?_
    refine ED.take 3 rfl (by decide +kernel) CutX.no_panic (by decide +kernel) rfl rfl rfl (RV.loadB rfl rfl rfl (by repeat constructor) rfl) ?_
    refine ED.take 4 rfl (by decide +kernel) CutX.no_panic (by decide +kernel) rfl rfl rfl (RV.sliceData rfl (by repeat constructor)) ?_
    refine ED.take 5 rfl (by decide +kernel) CutX.no_panic (by decide +kernel) rfl rfl rfl (RV.move rfl) ?_
    refine ED.take 6 rfl (by decide +kernel) CutX.no_panic (by decide +kernel) rfl rfl rfl (RV.nilCheck rfl) ?_
    refine ED.take 7 rfl (by decide +kernel) CutX.no_panic (by decide +kernel) rfl rfl rfl (RV.fieldAddr rfl rfl rfl rfl rfl rfl) ?_
    refine ED.take 8 rfl (by decide +kernel) CutX.no_panic (by decide +kernel) rfl rfl rfl (RV.loadB rfl rfl rfl (by repeat constructor) rfl) ?_
    refine ED.take 9 rfl (by decide +kernel) CutX.no_panic (by decide +kernel) rfl rfl rfl (RV.lenL rfl rfl rfl) ?_
    refine ED.loud 10 rfl (by decide +kernel) ?_
    refine EL.unsafeStr rfl rfl rfl rfl rfl (by kernel_rfl) rfl (by repeat constructor) hb ?_
    refine ED.next (.i (by repeat constructor)) ?_
    refine ED.take 11 rfl (by decide +kernel) CutX.no_panic (by decide +kernel) rfl rfl rfl (RV.assign rfl) ?_
    refine ED.done (by decide +kernel) ?_
    exact PX.cutX () ⟨rfl, trivial⟩ (.i (by repeat constructor))
  refine .go ?_; repeat constructor
  exact PX.ret rfl Try.results74 (.cons (.tmp rfl) .nil) (fun w hs => ⟨(), rfl, hs⟩)
end Go.Proofs.Ytblpgpgbnlhjlaa
namespace Go.Proofs.Ytblpgpgbnlhjlaa
open Go Go.RowKit Sl
set_option maxRecDepth 100000
set_option maxHeartbeats 8000000
set_option linter.unusedVariables false
set_option linter.unusedSimpArgs false
attribute [local irreducible] ES EL PX wps
def zeroS : BS := ⟨0, 0, 0, 0⟩
def bitW (b : Nat) : UInt64 := 1 <<< UInt64.ofNat (b % 64)
def addS (s : BS) (b : Nat) : BS := s.set (b / 64) (s.get (b / 64) ||| bitW b)
def hasS (s : BS) (b : Nat) : Bool := decide ((((s.get (b / 64) >>> UInt64.ofNat (b % 64)) &&& 1).toNat : Int) = 1)
def ofS (l : List UInt8) : BS := l.foldl (fun s b => addS s b.toNat) zeroS
def joinS (f : UInt64 → UInt64 → UInt64) (s t : BS) : BS := ⟨f s.a t.a, f s.b t.b, f s.c t.c, f s.d t.d⟩
def notS (s : BS) : BS := joinS (fun x _ => ~~~x) s s
def orS (s t : BS) : BS := joinS (fun x y => x ||| y) s t
def fillS (p : Nat → Bool) : Nat → BS
  | 0 => zeroS
  | n + 1 => if p n then addS (fillS p n) n else fillS p n
theorem bit_get (x : UInt64) (j : Nat) (hj : j < 64) : decide ((((x >>> UInt64.ofNat j) &&& 1).toNat : Int) = 1) = x.toNat.testBit j := by
  rw [UInt64.toNat_and, UInt64.toNat_shiftRight, UInt64.toNat_ofNat_of_lt' (by simp only [UInt64.size]; omega), Nat.mod_eq_of_lt hj]
  rw [show (1 : UInt64).toNat = 1 from rfl, Nat.and_one_is_mod, Nat.testBit_eq_decide_div_mod_eq, Nat.shiftRight_eq_div_pow]
  apply decide_eq_decide.2
  omega
theorem hasS_bit (s : BS) (b : Nat) : hasS s b = (s.get (b / 64)).toNat.testBit (b % 64) := bit_get _ _ (Nat.mod_lt _ (by omega))
theorem bitW_bit (b j : Nat) (hj : j < 64) : (bitW b).toNat.testBit j = decide (j = b % 64) := by
  have hb : b % 64 < 64 := Nat.mod_lt _ (by omega)
  unfold bitW
  rw [UInt64.toNat_shiftLeft, UInt64.toNat_ofNat_of_lt' (by simp only [UInt64.size]; omega), Nat.mod_eq_of_lt hb, show (1 : UInt64).toNat = 1 from rfl, Nat.testBit_mod_two_pow, Nat.one_shiftLeft, Nat.testBit_two_pow]
  simp [hj]
  exact eq_comm
theorem get_set (s : BS) (i k : Nat) (hi : i < 4) (hk : k < 4) (x : UInt64) : (s.set i x).get k = if i = k then x else s.get k := by
  match i, k, hi, hk with
  | 0, 0, _, _ | 0, 1, _, _ | 0, 2, _, _ | 0, 3, _, _ => rfl
  | 1, 0, _, _ | 1, 1, _, _ | 1, 2, _, _ | 1, 3, _, _ => rfl
  | 2, 0, _, _ | 2, 1, _, _ | 2, 2, _, _ | 2, 3, _, _ => rfl
  | 3, 0, _, _ | 3, 1, _, _ | 3, 2, _, _ | 3, 3, _, _ => rfl
theorem has_add (s : BS) (b k : Nat) (hb : b < 256) (hk : k < 256) : hasS (addS s b) k = (hasS s k || decide (k = b)) := by
  rw [hasS_bit, hasS_bit, addS, get_set _ _ _ (by omega) (by omega)]
  by_cases h : b / 64 = k / 64
  · rw [if_pos h, UInt64.toNat_or, Nat.testBit_or, bitW_bit _ _ (Nat.mod_lt _ (by omega)), h]
    congr 1
    apply decide_eq_decide.2
    omega
  · rw [if_neg h]
    have : decide (k = b) = false := decide_eq_false (by omega)
    rw [this, Bool.or_false]
theorem has_zero (k : Nat) : hasS zeroS k = false := by
  rw [hasS_bit]
  have : (zeroS.get (k / 64)).toNat = 0 := by
    unfold zeroS BS.get
    split <;> rfl
  rw [this, Nat.zero_testBit]
theorem bs_word (x y : UInt64) (h : ∀ j, j < 64 → x.toNat.testBit j = y.toNat.testBit j) : x = y := by
  apply UInt64.toNat_inj.1
  apply Nat.eq_of_testBit_eq
  intro j
  by_cases hj : j < 64
  · exact h j hj
  · have hx : x.toNat < 2 ^ j := Nat.lt_of_lt_of_le x.toNat_lt (Nat.pow_le_pow_right (by omega) (by omega))
    have hy : y.toNat < 2 ^ j := Nat.lt_of_lt_of_le y.toNat_lt (Nat.pow_le_pow_right (by omega) (by omega))
    rw [Nat.testBit_lt_two_pow hx, Nat.testBit_lt_two_pow hy]
theorem bs_ext (s t : BS) (h : ∀ k, k < 256 → hasS s k = hasS t k) : s = t := by
  have hw : ∀ i, i < 4 → s.get i = t.get i := fun i hi => bs_word _ _ fun j hj => by
    have := h (64 * i + j) (by omega)
    rw [hasS_bit, hasS_bit] at this
    rw [show (64 * i + j) / 64 = i by omega, show (64 * i + j) % 64 = j by omega] at this
    exact this
  obtain ⟨a, b, c, d⟩ := s
  obtain ⟨a', b', c', d'⟩ := t
  have h0 : a = a' := hw 0 (by omega)
  have h1 : b = b' := hw 1 (by omega)
  have h2 : c = c' := hw 2 (by omega)
  have h3 : d = d' := hw 3 (by omega)
  rw [h0, h1, h2, h3]
theorem has_fill (p : Nat → Bool) (k : Nat) (hk : k < 256) : ∀ n, n ≤ 256 → hasS (fillS p n) k = (p k && decide (k < n))
  | 0, _ => by rw [fillS, has_zero]; simp
  | n + 1, hn => by
    rw [fillS]
    have ih := has_fill p k hk n (by omega)
    split
    · rename_i hp
      rw [has_add _ _ _ (by omega) hk, ih]
      by_cases h : k = n
      · subst h; simp [hp]
      · have : (k < n + 1) ↔ k < n := by omega
        simp [h, this]
    · rename_i hp
      rw [ih]
      by_cases h : k = n
      · subst h; simp [hp]
      · have : (k < n + 1) ↔ k < n := by omega
        simp [this]
theorem fill_eq (p : Nat → Bool) (s : BS) (h : ∀ k, k < 256 → hasS s k = p k) : fillS p 256 = s := bs_ext _ _ fun k hk => by
  rw [has_fill p k hk 256 (by omega), h k hk]; simp [hk]
def spanGo (lo : Nat) : Nat → BS
  | 0 => zeroS
  | n + 1 => addS (spanGo lo n) (lo + n)
def spanM (lo hi : UInt8) : BS × Int := if hi.toNat < lo.toNat then (zeroS, 7) else (fillS (fun b => decide (lo.toNat ≤ b) && decide (b ≤ hi.toNat)) 256, 0)
theorem has_span (lo k : Nat) (hk : k < 256) : ∀ n, lo + n ≤ 256 → hasS (spanGo lo n) k = decide (lo ≤ k ∧ k < lo + n)
  | 0, _ => by rw [spanGo, has_zero]; symm; exact decide_eq_false (by omega)
  | n + 1, h => by
    rw [spanGo, has_add _ _ _ (by omega) hk, has_span lo k hk n (by omega), Bool.eq_iff_iff]
    simp only [Bool.or_eq_true, decide_eq_true_eq]
    omega
theorem span_eq (lo hi : UInt8) (h : lo.toNat ≤ hi.toNat) : spanGo lo.toNat (hi.toNat + 1 - lo.toNat) = fillS (fun b => decide (lo.toNat ≤ b) && decide (b ≤ hi.toNat)) 256 := by
  have := hi.toNat_lt
  refine (fill_eq _ _ fun k hk => ?_).symm
  rw [has_span _ _ hk _ (by omega), Bool.eq_iff_iff]
  simp only [Bool.and_eq_true, decide_eq_true_eq]
  omega
def partJ (f : UInt64 → UInt64 → UInt64) (s t : BS) (i : Nat) : BS := ⟨if 0 < i then f s.a t.a else 0, if 1 < i then f s.b t.b else 0, if 2 < i then f s.c t.c else 0, if 3 < i then f s.d t.d else 0⟩
theorem partJ_step (f : UInt64 → UInt64 → UInt64) (s t : BS) (i : Nat) (hi : i < 4) : (partJ f s t i).set i (f (s.get i) (t.get i)) = partJ f s t (i + 1) := by
  match i, hi with
  | 0, _ | 1, _ | 2, _ | 3, _ => rfl
abbrev nAlpha : List UInt8 := [97, 108, 112, 104, 97]
abbrev nDigit : List UInt8 := [100, 105, 103, 105, 116]
abbrev nAlnum : List UInt8 := [97, 108, 110, 117, 109]
abbrev nUpper : List UInt8 := [117, 112, 112, 101, 114]
abbrev nLower : List UInt8 := [108, 111, 119, 101, 114]
abbrev nSpace : List UInt8 := [115, 112, 97, 99, 101]
abbrev nBlank : List UInt8 := [98, 108, 97, 110, 107]
abbrev nGraph : List UInt8 := [103, 114, 97, 112, 104]
abbrev nPrint : List UInt8 := [112, 114, 105, 110, 116]
abbrev nPunct : List UInt8 := [112, 117, 110, 99, 116]
abbrev nCntrl : List UInt8 := [99, 110, 116, 114, 108]
abbrev nXdigit : List UInt8 := [120, 100, 105, 103, 105, 116]
def bUp (b : Nat) : Bool := decide (65 ≤ b ∧ b ≤ 90)
def bLo (b : Nat) : Bool := decide (97 ≤ b ∧ b ≤ 122)
def bDi (b : Nat) : Bool := decide (48 ≤ b ∧ b ≤ 57)
def bGr (b : Nat) : Bool := decide (32 < b ∧ b < 127)
def isB (l : List UInt8) (b : Nat) : Bool :=
  if l = nAlpha then decide ((65 ≤ b ∧ b ≤ 90) ∨ (97 ≤ b ∧ b ≤ 122)) else if l = nDigit then decide (48 ≤ b ∧ b ≤ 57)
  else if l = nAlnum then decide ((65 ≤ b ∧ b ≤ 90) ∨ (97 ≤ b ∧ b ≤ 122) ∨ (48 ≤ b ∧ b ≤ 57)) else if l = nUpper then decide (65 ≤ b ∧ b ≤ 90)
  else if l = nLower then decide (97 ≤ b ∧ b ≤ 122) else if l = nSpace then decide (b = 32 ∨ (9 ≤ b ∧ b ≤ 13)) else if l = nBlank then decide (b = 32 ∨ b = 9)
  else if l = nGraph then decide (32 < b ∧ b < 127) else if l = nPrint then decide ((32 < b ∧ b < 127) ∨ b = 32)
  else if l = nPunct then decide ((32 < b ∧ b < 127) ∧ ¬ (65 ≤ b ∧ b ≤ 90) ∧ ¬ (97 ≤ b ∧ b ≤ 122) ∧ ¬ (48 ≤ b ∧ b ≤ 57))
  else if l = nCntrl then decide (b < 32 ∨ b = 127) else if l = nXdigit then decide ((48 ≤ b ∧ b ≤ 57) ∨ (65 ≤ b ∧ b ≤ 70) ∨ (97 ≤ b ∧ b ≤ 102)) else false
def names12 : List (List UInt8) := [nAlpha, nDigit, nAlnum, nUpper, nLower, nSpace, nBlank, nGraph, nPrint, nPunct, nCntrl, nXdigit]
def okM (l : List UInt8) : Bool := decide (l ∈ names12)
def classM (l : List UInt8) : BS × Int := if okM l then (fillS (isB l) 256, 0) else (zeroS, 8)
end Go.Proofs.Ytblpgpgbnlhjlaa
namespace Go.Proofs.Ytblpgpgbnlhjlaa
open Go Go.RowKit Sl
set_option maxRecDepth 100000
set_option maxHeartbeats 8000000
set_option linter.unusedVariables false
set_option linter.unusedSimpArgs false
attribute [local irreducible] ES EL PX wps
abbrev SB (g : Nat) (s : BS) : HA := HA.blk g (.cells s.cells 79)
theorem take_snoc {α : Type} (l : List α) (i : Nat) (d : α) (h : i < l.length) : l.take (i + 1) = l.take i ++ [l.getD i d] := by
  rw [List.take_succ_eq_append_getElem h, List.getD_eq_getElem?_getD, List.getElem?_eq_getElem h]; rfl
theorem ofS_step (l : List UInt8) (i : Nat) (h : i < l.length) : addS (ofS (l.take i)) (l.getD i 0).toNat = ofS (l.take (i + 1)) := by
  rw [take_snoc l i 0 h]; simp [ofS, List.foldl_append]
theorem add_c (g : Nat) (s : BS) (b : UInt8) : Mut Try.prog 117 #[Pv g 0, Uv b] [SB g s] (fun _ : Unit => .tuple #[]) (fun _ => [SB g (addS s b.toNat)]) := by
  intro w0 B R w h
  have hb := b.toNat_lt
  obtain ⟨x0, x1, x2, x3⟩ := s
  replace h : Sat w0 B (SB g ⟨x0, x1, x2, x3⟩ :: R) w := h
  refine calls_of_ES TB Try.func117 rfl _ Try.ntmps117 rfl h ?_
  refine ES.draw (X := Unit) (fun _ => []) (fun _ => SB g (addS ⟨x0, x1, x2, x3⟩ b.toNat) :: R) [SB g ⟨x0, x1, x2, x3⟩] mixed (.i (by repeat constructor)) ?_ (fun _ => ?_)
  · refine ED.take 0 rfl (by decide +kernel) CutX.no_panic (by decide +kernel) rfl rfl rfl (RV.move rfl) ?_
    refine ED.take 1 rfl (by decide +kernel) CutX.no_panic (by decide +kernel) rfl rfl rfl (RV.move rfl) ?_
    refine ED.take 2 rfl (by decide +kernel) CutX.no_panic (by decide +kernel) rfl rfl rfl (RV.quoU (n := 64) rfl rfl (by omega) (by simp only [kmax]; omega)) ?_
    refine ED.take 3 rfl (by decide +kernel) CutX.no_panic (by decide +kernel) rfl rfl rfl (RV.nilCheck rfl) ?_
    refine ED.take 4 rfl (by decide +kernel) CutX.no_panic (by decide +kernel) rfl rfl rfl (RV.indexAddrA1 rfl rfl rfl rfl rfl rfl (by omega)) ?_
    refine ED.take 5 rfl (by decide +kernel) CutX.no_panic (by decide +kernel) rfl rfl rfl (RV.loadBS rfl rfl rfl (by repeat constructor) (by omega)) ?_
    refine ED.take 6 rfl (by decide +kernel) CutX.no_panic (by decide +kernel) rfl rfl rfl (RV.move rfl) ?_
    refine ED.take 7 rfl (by decide +kernel) CutX.no_panic (by decide +kernel) rfl rfl rfl (RV.remN (n := 64) rfl rfl (by omega)) ?_
    refine ED.take 8 rfl (by decide +kernel) CutX.no_panic (by decide +kernel) rfl rfl rfl (RV.shlW (a := 1) rfl rfl rfl (by omega)) ?_
    refine ED.take 9 rfl (by decide +kernel) CutX.no_panic (by decide +kernel) rfl rfl rfl (RV.orW rfl rfl rfl rfl) ?_
    refine ED.take 10 rfl (by decide +kernel) CutX.no_panic (by decide +kernel) rfl rfl rfl (RV.nilCheck rfl) ?_
    refine ED.take 11 rfl (by decide +kernel) CutX.no_panic (by decide +kernel) rfl rfl rfl (RV.indexAddrA1 rfl rfl rfl rfl rfl rfl (by omega)) ?_
    refine ED.last 12 rfl (by decide +kernel) (by decide +kernel) (by decide +kernel) ?_
    refine EL.storeBS rfl rfl rfl rfl rfl (by repeat constructor) (by omega) ?_
    refine EL.endQ ?_
    exact PX.cutX () trivial (.i (by repeat constructor))
  refine .go ?_; repeat constructor
  exact PX.end rfl Try.results117 .nil (fun w hs => ⟨(), rfl, hs.ent (.i (by repeat constructor))⟩)
theorem of_c (l : List UInt8) (hl : l.length ≤ 4611686018427387904) (w : World) : Pure Try.prog 111 #[Sv l] (fun _ : Unit => Bs (ofS l)) (fun _ => []) w := by
  refine calls_of_ES TB Try.func111 rfl _ Try.ntmps111 rfl (Sat.start w) ?_
  refine .go ?_; repeat constructor
  (refine EL.alloc rfl rfl rfl ?_; intro g2)
  refine .go ?_; repeat constructor
  (refine EL.alloc rfl rfl rfl ?_; intro g3)
  refine .go ?_; repeat constructor
  refine EL.move rfl rfl rfl ?_
  refine EL.lenS rfl rfl rfl rfl rfl ?_
  refine EL.move rfl rfl rfl ?_
  refine .go ?_; repeat constructor
  refine ES.loop (σ := Nat) (fun i => i ≤ l.length) (fun i => [(0, Sv l), (2, Pv g2 0), (3, Pv g3 0), (6, Iv l.length), (7, Iv i)]) (fun i => [SB g3 (ofS (l.take i)), SB g2 zeroS]) (fun i => l.length - i) 0 (Nat.zero_le _) ⟨rfl, rfl, rfl, rfl, rfl, trivial⟩ (.i (by repeat constructor)) ?_
  intro i hi
  refine .go ?_; repeat constructor
  refine EL.lss rfl rfl rfl rfl ?_
  refine .go ?_; repeat constructor
  refine ES.condD rfl (fun hlt => ?_) (fun hge => ?_)
  · have hlt' : i < l.length := by omega
    have hst := ofS_step l i hlt'
    refine .go ?_; repeat constructor
    refine EL.move rfl rfl rfl ?_
    refine EL.assign rfl rfl rfl ?_
    refine .go ?_; repeat constructor
    refine EL.move rfl rfl rfl ?_
    refine EL.move rfl rfl rfl ?_
    refine EL.indexSN rfl rfl rfl rfl rfl rfl (by omega) ?_
    refine EL.callM1 rfl rfl rfl ent117 rfl (add_c g3 (ofS (l.take i)) (l.getD i 0)) (by repeat constructor) ?_
    refine .go ?_; repeat constructor
    rw [hst]
    refine .go ?_; repeat constructor
    refine EL.add1 rfl rfl rfl rfl (by omega) ?_
    refine EL.move rfl rfl rfl ?_
    refine .go ?_; repeat constructor
    exact PX.loop (i + 1) (by omega) (by omega) ⟨rfl, rfl, rfl, rfl, rfl, trivial⟩ (.i (by repeat constructor))
  obtain rfl : i = l.length := by omega
  rw [List.take_length]
  refine .go ?_; repeat constructor
  (apply EL.loadAggB; exact rfl; exact rfl; exact rfl; exact rfl; exact rfl; (case hm => repeat constructor); exact rfl)
  (apply EL.storeAll; exact rfl; exact rfl; exact rfl; exact rfl; exact rfl; (case p => repeat constructor); exact rfl; (case h1 => exact (by first | rfl | exact all1 rfl | (intro u hu; simp only [List.mem_cons, List.not_mem_nil, or_false] at hu; rcases hu with rfl | rfl | rfl | rfl <;> rfl) | (intro u hu; simp at hu; rcases hu with rfl | rfl | rfl | rfl <;> rfl) | (intro u hu; simp at hu; rcases hu with rfl | rfl | rfl <;> rfl) | (intro u hu; simp at hu; rcases hu with rfl | rfl <;> rfl) | (intro u hu; simp at hu; obtain ⟨_, _, rfl⟩ := hu; rfl))))
  refine .go ?_; repeat constructor
  exact PX.ret rfl Try.results111 (.cons (.blkA rfl rfl rfl (by repeat constructor) rfl) .nil) (fun w hs => ⟨(), rfl, hs.ent (.nil _)⟩)
theorem span_c (lo hi : UInt8) (w : World) : Pure Try.prog 116 #[Uv lo, Uv hi] (fun _ : Unit => .tuple #[Bs (spanM lo hi).1, Iv (spanM lo hi).2]) (fun _ => []) w := by
  have hl := lo.toNat_lt
  have hh := hi.toNat_lt
  refine calls_of_ES TB Try.func116 rfl _ Try.ntmps116 rfl (Sat.start w) ?_
  refine .go ?_; repeat constructor
  (refine EL.alloc rfl rfl rfl ?_; intro g4)
  refine EL.assign rfl rfl rfl ?_
  refine .go ?_; repeat constructor
  (refine EL.alloc rfl rfl rfl ?_; intro g6)
  refine .go ?_; repeat constructor
  refine EL.move rfl rfl rfl ?_
  refine EL.move rfl rfl rfl ?_
  refine EL.lss rfl rfl rfl rfl ?_
  refine .go ?_; repeat constructor
  refine ES.condD rfl (fun hlt => ?_) (fun hge => ?_)
  · have hm : spanM lo hi = (zeroS, 7) := by simp only [spanM]; rw [if_pos (by omega)]
    refine .go ?_; repeat constructor
    (apply EL.loadAggB; exact rfl; exact rfl; exact rfl; exact rfl; exact rfl; (case hm => repeat constructor); exact rfl)
    (apply EL.storeAll; exact rfl; exact rfl; exact rfl; exact rfl; exact rfl; (case p => repeat constructor); exact rfl; (case h1 => exact (by first | rfl | exact all1 rfl | (intro u hu; simp only [List.mem_cons, List.not_mem_nil, or_false] at hu; rcases hu with rfl | rfl | rfl | rfl <;> rfl) | (intro u hu; simp at hu; rcases hu with rfl | rfl | rfl | rfl <;> rfl) | (intro u hu; simp at hu; rcases hu with rfl | rfl | rfl <;> rfl) | (intro u hu; simp at hu; rcases hu with rfl | rfl <;> rfl) | (intro u hu; simp at hu; obtain ⟨_, _, rfl⟩ := hu; rfl))))
    refine EL.assign rfl rfl rfl ?_
    refine .go ?_; repeat constructor
    exact PX.ret rfl Try.results116 (.cons (.blkA rfl rfl rfl (by repeat constructor) rfl) (.cons (.tmp rfl) .nil)) (fun w hs => ⟨(), by rw [hm]; rfl, hs.ent (.nil _)⟩)
  have hle : lo.toNat ≤ hi.toNat := by omega
  have hm : spanM lo hi = (spanGo lo.toNat (hi.toNat + 1 - lo.toNat), 0) := by simp only [spanM]; rw [if_neg (by omega), span_eq lo hi hle]
  refine .go ?_; repeat constructor
  refine EL.move rfl rfl rfl ?_
  refine EL.convN rfl rfl rfl rfl rfl rfl (le_big8 _ _) ?_
  refine EL.assign rfl rfl rfl ?_
  refine .go ?_; repeat constructor
  refine ES.loop (σ := Nat) (fun n => lo.toNat + n ≤ hi.toNat + 1) (fun n => [(1, Uv hi), (4, Pv g4 0), (6, Pv g6 0), (7, Iv ((lo.toNat + n : Nat) : Int))]) (fun n => [SB g6 (spanGo lo.toNat n), SB g4 zeroS]) (fun n => hi.toNat + 1 - (lo.toNat + n)) 0 (by omega) ⟨rfl, rfl, rfl, rfl, trivial⟩ (.i (by repeat constructor)) ?_
  intro n hn
  refine .go ?_; repeat constructor
  refine EL.move rfl rfl rfl ?_
  refine EL.move rfl rfl rfl ?_
  refine EL.convN rfl rfl rfl rfl rfl rfl (le_big8 _ _) ?_
  refine EL.leq rfl rfl rfl rfl ?_
  refine .go ?_; repeat constructor
  refine ES.condD rfl (fun hlt2 => ?_) (fun hge2 => ?_)
  · have hk : lo.toNat + n < 256 := by omega
    have hk8 : (UInt8.ofNat (lo.toNat + n)).toNat = lo.toNat + n := by simp; omega
    have hc := add_c g6 (spanGo lo.toNat n) (UInt8.ofNat (lo.toNat + n))
    rw [show addS (spanGo lo.toNat n) (UInt8.ofNat (lo.toNat + n)).toNat = spanGo lo.toNat (n + 1) by rw [hk8]; rfl] at hc
    refine .go ?_; repeat constructor
    refine EL.move rfl rfl rfl ?_
    refine EL.convI ((UInt8.ofNat (lo.toNat + n)).toNat : Int) rfl rfl rfl rfl rfl rfl (by rw [hk8]; exact wrap_u8 _ hk) ?_
    refine EL.callM1 rfl rfl rfl ent117 rfl hc (by repeat constructor) ?_
    refine .go ?_; repeat constructor
    refine EL.move rfl rfl rfl ?_
    refine EL.add1 rfl rfl rfl rfl (by omega) ?_
    refine EL.assign rfl rfl rfl ?_
    refine .go ?_; repeat constructor
    exact PX.loop (n + 1) (by omega) (by omega) ⟨rfl, rfl, rfl, rfl, trivial⟩ (.i (by repeat constructor))
  have he : n = hi.toNat + 1 - lo.toNat := by omega
  subst he
  refine .go ?_; repeat constructor
  (apply EL.loadAggB; exact rfl; exact rfl; exact rfl; exact rfl; exact rfl; (case hm => repeat constructor); exact rfl)
  (apply EL.storeAll; exact rfl; exact rfl; exact rfl; exact rfl; exact rfl; (case p => repeat constructor); exact rfl; (case h1 => exact (by first | rfl | exact all1 rfl | (intro u hu; simp only [List.mem_cons, List.not_mem_nil, or_false] at hu; rcases hu with rfl | rfl | rfl | rfl <;> rfl) | (intro u hu; simp at hu; rcases hu with rfl | rfl | rfl | rfl <;> rfl) | (intro u hu; simp at hu; rcases hu with rfl | rfl | rfl <;> rfl) | (intro u hu; simp at hu; rcases hu with rfl | rfl <;> rfl) | (intro u hu; simp at hu; obtain ⟨_, _, rfl⟩ := hu; rfl))))
  refine EL.assign rfl rfl rfl ?_
  refine .go ?_; repeat constructor
  exact PX.ret rfl Try.results116 (.cons (.blkA rfl rfl rfl (by repeat constructor) rfl) (.cons (.tmp rfl) .nil)) (fun w hs => ⟨(), by rw [hm]; rfl, hs.ent (.nil _)⟩)
theorem has_c (s : BS) (b : UInt8) (w : World) : Pure Try.prog 60 #[Bs s, Uv b] (fun _ : Unit => .bool (hasS s b.toNat)) (fun _ => []) w := by
  have hb := b.toNat_lt
  refine calls_of_ES TB Try.func60 rfl _ Try.ntmps60 rfl (Sat.start w) ?_
  refine .go ?_; repeat constructor
  (refine EL.box rfl rfl rfl ?_; intro g2)
  refine EL.assign rfl rfl rfl ?_
  refine .go ?_; repeat constructor
  refine EL.move rfl rfl rfl ?_
  refine EL.ofRV (RV.quoU (n := 64) rfl rfl (by omega) (by simp only [kmax]; omega)) rfl rfl rfl (by intro c h; cases h) ?_
  refine EL.indexAddrA1 rfl rfl rfl rfl rfl rfl rfl rfl (by omega) ?_
  refine EL.loadBS rfl rfl rfl rfl rfl (by repeat constructor) (by omega) ?_
  refine EL.move rfl rfl rfl ?_
  refine EL.remN (n := 64) rfl rfl rfl rfl (by omega) ?_
  refine EL.ofRV (RV.shrW rfl rfl rfl (by omega)) rfl rfl rfl (by intro c h; cases h) ?_
  refine EL.ofRV (RV.andW (b := 1) rfl rfl rfl rfl) rfl rfl rfl (by intro c h; cases h) ?_
  refine EL.eqlI rfl rfl rfl rfl ?_
  refine EL.assign rfl rfl rfl ?_
  refine .go ?_; repeat constructor
  exact PX.ret rfl Try.results60 (.cons (.tmp rfl) .nil) (fun w hs => ⟨(), rfl, hs.ent (.nil _)⟩)
theorem join_c (fw : Nat) (op : UInt64 → UInt64 → UInt64) (he : Enters Try.prog fw) (hc : ∀ x y w, Pure Try.prog fw #[Wv x, Wv y] (fun _ : Unit => Wv (op x y)) (fun _ => []) w) (s t : BS) (w : World) :
    Pure Try.prog 102 #[Bs s, Bs t, .func (.func fw) #[] #[]] (fun _ : Unit => Bs (joinS op s t)) (fun _ => []) w := by
  refine calls_of_ES TB Try.func102 rfl _ Try.ntmps102 rfl (Sat.start w) ?_
  refine .go ?_; repeat constructor
  (refine EL.box rfl rfl rfl ?_; intro g3)
  (refine EL.box rfl rfl rfl ?_; intro g4)
  (refine EL.alloc rfl rfl rfl ?_; intro g6)
  refine .go ?_; repeat constructor
  (refine EL.alloc rfl rfl rfl ?_; intro g7)
  refine .go ?_; repeat constructor
  refine EL.move rfl rfl rfl ?_
  refine .go ?_; repeat constructor
  refine ES.loop (σ := Nat) (fun i => i ≤ 4) (fun i => [(2, .func (.func fw) #[] #[]), (3, Pv g3 0), (4, Pv g4 0), (6, Pv g6 0), (7, Pv g7 0), (9, Iv i)]) (fun i => [SB g7 (partJ op s t i), SB g6 zeroS, SB g4 t, SB g3 s]) (fun i => 4 - i) 0 (by omega) ⟨rfl, rfl, rfl, rfl, rfl, rfl, trivial⟩ (.i (by repeat constructor)) ?_
  intro i hi
  refine .go ?_; repeat constructor
  refine EL.lss rfl rfl rfl rfl ?_
  refine .go ?_; repeat constructor
  refine ES.condD rfl (fun hlt => ?_) (fun hge => ?_)
  · have hlt' : i < 4 := by omega
    have hst := partJ_step op s t i hlt'
    refine .go ?_; repeat constructor
    refine EL.move rfl rfl rfl ?_
    refine EL.assign rfl rfl rfl ?_
    refine .go ?_; repeat constructor
    refine ES.draw (X := Unit) (fun _ => [(2, .func (.func fw) #[] #[]), (3, Pv g3 0), (4, Pv g4 0), (6, Pv g6 0), (7, Pv g7 0), (9, Iv i)]) (fun _ => [SB g7 (partJ op s t (i + 1)), SB g6 zeroS, SB g4 t, SB g3 s]) [SB g4 t, SB g3 s] mixed (.i (by repeat constructor)) ?_ (fun _ => ?_)
    · rw [← hst]
      refine ED.take 0 rfl (by decide +kernel) CutX.no_panic (by decide +kernel) rfl rfl rfl (RV.move rfl) ?_
      refine ED.take 1 rfl (by decide +kernel) CutX.no_panic (by decide +kernel) rfl rfl rfl (RV.move rfl) ?_
      refine ED.take 2 rfl (by decide +kernel) CutX.no_panic (by decide +kernel) rfl rfl rfl (RV.move rfl) ?_
      refine ED.take 3 rfl (by decide +kernel) CutX.no_panic (by decide +kernel) rfl rfl rfl (RV.indexAddrA1 rfl rfl rfl rfl rfl rfl (by omega)) ?_
      refine ED.take 4 rfl (by decide +kernel) CutX.no_panic (by decide +kernel) rfl rfl rfl (RV.loadBS (w0 := s.a) (w1 := s.b) (w2 := s.c) (w3 := s.d) rfl rfl rfl (by repeat constructor) hlt') ?_
      refine ED.take 5 rfl (by decide +kernel) CutX.no_panic (by decide +kernel) rfl rfl rfl (RV.move rfl) ?_
      refine ED.take 6 rfl (by decide +kernel) CutX.no_panic (by decide +kernel) rfl rfl rfl (RV.indexAddrA1 rfl rfl rfl rfl rfl rfl (by omega)) ?_
      refine ED.take 7 rfl (by decide +kernel) CutX.no_panic (by decide +kernel) rfl rfl rfl (RV.loadBS (w0 := t.a) (w1 := t.b) (w2 := t.c) (w3 := t.d) rfl rfl rfl (by repeat constructor) hlt') ?_
      refine ED.loud 8 rfl (by decide +kernel) ?_
      refine EL.callP rfl rfl rfl he rfl (hc (s.get i) (t.get i)) ?_
      refine ED.next (.i (by repeat constructor)) ?_
      refine ED.take 9 rfl (by decide +kernel) CutX.no_panic (by decide +kernel) rfl rfl rfl (RV.indexAddrA1 rfl rfl rfl rfl rfl rfl (by omega)) ?_
      refine ED.last 10 rfl (by decide +kernel) (by decide +kernel) (by decide +kernel) ?_
      refine EL.storeBS rfl rfl rfl rfl rfl (by repeat constructor) hlt' ?_
      refine EL.endQ ?_
      exact PX.cutX () ⟨rfl, rfl, rfl, rfl, rfl, rfl, trivial⟩ (.i (by repeat constructor))
    refine .go ?_; repeat constructor
    refine EL.add1 rfl rfl rfl rfl (by omega) ?_
    refine EL.move rfl rfl rfl ?_
    refine .go ?_; repeat constructor
    exact PX.loop (i + 1) (by omega) (by omega) ⟨rfl, rfl, rfl, rfl, rfl, rfl, trivial⟩ (.i (by repeat constructor))
  obtain rfl : i = 4 := by omega
  refine .go ?_; repeat constructor
  (apply EL.loadAggB; exact rfl; exact rfl; exact rfl; exact rfl; exact rfl; (case hm => repeat constructor); exact rfl)
  (apply EL.storeAll; exact rfl; exact rfl; exact rfl; exact rfl; exact rfl; (case p => repeat constructor); exact rfl; (case h1 => exact (by first | rfl | exact all1 rfl | (intro u hu; simp only [List.mem_cons, List.not_mem_nil, or_false] at hu; rcases hu with rfl | rfl | rfl | rfl <;> rfl) | (intro u hu; simp at hu; rcases hu with rfl | rfl | rfl | rfl <;> rfl) | (intro u hu; simp at hu; rcases hu with rfl | rfl | rfl <;> rfl) | (intro u hu; simp at hu; rcases hu with rfl | rfl <;> rfl) | (intro u hu; simp at hu; obtain ⟨_, _, rfl⟩ := hu; rfl))))
  refine .go ?_; repeat constructor
  exact PX.ret rfl Try.results102 (.cons (.blkA rfl rfl rfl (by repeat constructor) rfl) .nil) (fun w hs => ⟨(), rfl, hs.ent (.nil _)⟩)
theorem not1_c (x y : UInt64) (w : World) : Pure Try.prog 103 #[Wv x, Wv y] (fun _ : Unit => Wv (~~~x)) (fun _ => []) w := by
  refine calls_of_ES TB Try.func103 rfl _ Try.ntmps103 rfl (Sat.start w) ?_
  refine .go ?_; repeat constructor
  refine EL.assign rfl rfl rfl ?_
  refine .go ?_; repeat constructor
  refine EL.move rfl rfl rfl ?_
  refine EL.ofRV (RV.notW rfl rfl) rfl rfl rfl (by intro c h; cases h) ?_
  refine EL.assign rfl rfl rfl ?_
  refine .go ?_; repeat constructor
  exact PX.ret rfl Try.results103 (.cons (.tmp rfl) .nil) (fun w hs => ⟨(), rfl, hs.ent (.nil _)⟩)
theorem or1_c (x y : UInt64) (w : World) : Pure Try.prog 113 #[Wv x, Wv y] (fun _ : Unit => Wv (x ||| y)) (fun _ => []) w := by
  refine calls_of_ES TB Try.func113 rfl _ Try.ntmps113 rfl (Sat.start w) ?_
  refine .go ?_; repeat constructor
  refine EL.assign rfl rfl rfl ?_
  refine .go ?_; repeat constructor
  refine EL.move rfl rfl rfl ?_
  refine EL.move rfl rfl rfl ?_
  refine EL.ofRV (RV.orW rfl rfl rfl rfl) rfl rfl rfl (by intro c h; cases h) ?_
  refine EL.assign rfl rfl rfl ?_
  refine .go ?_; repeat constructor
  exact PX.ret rfl Try.results113 (.cons (.tmp rfl) .nil) (fun w hs => ⟨(), rfl, hs.ent (.nil _)⟩)
theorem not_c (s : BS) (w : World) : Pure Try.prog 90 #[Bs s] (fun _ : Unit => Bs (notS s)) (fun _ => []) w := by
  refine calls_of_ES TB Try.func90 rfl _ Try.ntmps90 rfl (Sat.start w) ?_
  refine .go ?_; repeat constructor
  (refine EL.box rfl rfl rfl ?_; intro g1)
  (refine EL.alloc rfl rfl rfl ?_; intro g2)
  refine .go ?_; repeat constructor
  (apply EL.loadAggB; exact rfl; exact rfl; exact rfl; exact rfl; exact rfl; (case hm => repeat constructor); exact rfl)
  (apply EL.loadAggB; exact rfl; exact rfl; exact rfl; exact rfl; exact rfl; (case hm => repeat constructor); exact rfl)
  refine EL.callP rfl rfl rfl ent102 rfl (join_c 103 (fun x _ => ~~~x) ent103 not1_c s s) ?_
  (apply EL.storeAll; exact rfl; exact rfl; exact rfl; exact rfl; exact rfl; (case p => repeat constructor); exact rfl; (case h1 => exact (by first | rfl | exact all1 rfl | (intro u hu; simp only [List.mem_cons, List.not_mem_nil, or_false] at hu; rcases hu with rfl | rfl | rfl | rfl <;> rfl) | (intro u hu; simp at hu; rcases hu with rfl | rfl | rfl | rfl <;> rfl) | (intro u hu; simp at hu; rcases hu with rfl | rfl | rfl <;> rfl) | (intro u hu; simp at hu; rcases hu with rfl | rfl <;> rfl) | (intro u hu; simp at hu; obtain ⟨_, _, rfl⟩ := hu; rfl))))
  refine .go ?_; repeat constructor
  exact PX.ret rfl Try.results90 (.cons (.blkA rfl rfl rfl (by repeat constructor) rfl) .nil) (fun w hs => ⟨(), rfl, hs.ent (.nil _)⟩)
theorem or_c (s t : BS) (w : World) : Pure Try.prog 109 #[Bs s, Bs t] (fun _ : Unit => Bs (orS s t)) (fun _ => []) w := by
  refine calls_of_ES TB Try.func109 rfl _ Try.ntmps109 rfl (Sat.start w) ?_
  refine .go ?_; repeat constructor
  (refine EL.box rfl rfl rfl ?_; intro g2)
  (refine EL.box rfl rfl rfl ?_; intro g3)
  (refine EL.alloc rfl rfl rfl ?_; intro g4)
  refine .go ?_; repeat constructor
  (apply EL.loadAggB; exact rfl; exact rfl; exact rfl; exact rfl; exact rfl; (case hm => repeat constructor); exact rfl)
  (apply EL.loadAggB; exact rfl; exact rfl; exact rfl; exact rfl; exact rfl; (case hm => repeat constructor); exact rfl)
  refine EL.callP rfl rfl rfl ent102 rfl (join_c 113 (fun x y => x ||| y) ent113 or1_c s t) ?_
  (apply EL.storeAll; exact rfl; exact rfl; exact rfl; exact rfl; exact rfl; (case p => repeat constructor); exact rfl; (case h1 => exact (by first | rfl | exact all1 rfl | (intro u hu; simp only [List.mem_cons, List.not_mem_nil, or_false] at hu; rcases hu with rfl | rfl | rfl | rfl <;> rfl) | (intro u hu; simp at hu; rcases hu with rfl | rfl | rfl | rfl <;> rfl) | (intro u hu; simp at hu; rcases hu with rfl | rfl | rfl <;> rfl) | (intro u hu; simp at hu; rcases hu with rfl | rfl <;> rfl) | (intro u hu; simp at hu; obtain ⟨_, _, rfl⟩ := hu; rfl))))
  refine .go ?_; repeat constructor
  exact PX.ret rfl Try.results109 (.cons (.blkA rfl rfl rfl (by repeat constructor) rfl) .nil) (fun w hs => ⟨(), rfl, hs.ent (.nil _)⟩)
end Go.Proofs.Ytblpgpgbnlhjlaa
namespace Go.Proofs.Ytblpgpgbnlhjlaa
open Go Go.RowKit Sl
set_option maxRecDepth 100000
set_option maxHeartbeats 8000000
set_option linter.unusedVariables false
set_option linter.unusedSimpArgs false
attribute [local irreducible] ES EL PX wps
attribute [local irreducible] fillS
theorem is_c (l : List UInt8) (b : UInt8) (w : World) : Pure Try.prog 123 #[Sv l, Uv b] (fun _ : Unit => .tuple #[.bool (isB l b.toNat), .bool (okM l)]) (fun _ => []) w := by
  have hb := b.toNat_lt
  refine calls_of_ES TB Try.func123 rfl _ Try.ntmps123 rfl (Sat.start w) ?_
  refine .go ?_; repeat constructor
  refine EL.assign rfl rfl rfl ?_
  refine EL.assign rfl rfl rfl ?_
  refine .go ?_; repeat constructor
  refine EL.cut [(0, Sv l), (1, Uv b), (6, .bool (bUp b.toNat)), (7, .bool (bLo b.toNat)), (8, .bool (bDi b.toNat))] [] ?_ ?_
  · refine .go ?_; repeat constructor
    refine EL.move rfl rfl rfl ?_
    refine EL.geq rfl rfl rfl rfl ?_
    refine EL.move rfl rfl rfl ?_
    first | refine EL.splitD (d := 12) rfl (fun hp12 => ?_) (fun hp12 => ?_) | refine EL.splitN (d := 12) rfl (fun hp12 => ?_) (fun hp12 => ?_) | refine EL.splitB (d := 12) rfl (fun hp12 => ?_) (fun hp12 => ?_)
    · refine EL.move rfl rfl rfl ?_
      refine EL.leq rfl rfl rfl rfl ?_
      refine EL.pickT rfl rfl rfl rfl ?_
      refine EL.move rfl rfl rfl ?_
      refine EL.geq rfl rfl rfl rfl ?_
      refine EL.move rfl rfl rfl ?_
      first | refine EL.splitD (d := 18) rfl (fun hp18 => ?_) (fun hp18 => ?_) | refine EL.splitN (d := 18) rfl (fun hp18 => ?_) (fun hp18 => ?_) | refine EL.splitB (d := 18) rfl (fun hp18 => ?_) (fun hp18 => ?_)
      · refine EL.move rfl rfl rfl ?_
        refine EL.leq rfl rfl rfl rfl ?_
        refine EL.pickT rfl rfl rfl rfl ?_
        refine EL.move rfl rfl rfl ?_
        refine EL.geq rfl rfl rfl rfl ?_
        refine EL.move rfl rfl rfl ?_
        first | refine EL.splitD (d := 24) rfl (fun hp24 => ?_) (fun hp24 => ?_) | refine EL.splitN (d := 24) rfl (fun hp24 => ?_) (fun hp24 => ?_) | refine EL.splitB (d := 24) rfl (fun hp24 => ?_) (fun hp24 => ?_)
        · refine EL.move rfl rfl rfl ?_
          refine EL.leq rfl rfl rfl rfl ?_
          refine EL.pickT rfl rfl rfl rfl ?_
          refine EL.assign rfl rfl rfl ?_
          refine EL.assign rfl rfl rfl ?_
          refine EL.assign rfl rfl rfl ?_
          exact EL.endK ⟨rfl, rfl, getB rfl (by first | exact decide_eq_decide.2 (by omega) | exact Eq.trans decide_not.symm (decide_eq_decide.2 (by omega)) | exact (decide_eq_false (by omega)).symm | exact (decide_eq_true (by omega)).symm), getB rfl (by first | exact decide_eq_decide.2 (by omega) | exact Eq.trans decide_not.symm (decide_eq_decide.2 (by omega)) | exact (decide_eq_false (by omega)).symm | exact (decide_eq_true (by omega)).symm), getB rfl (by first | exact decide_eq_decide.2 (by omega) | exact Eq.trans decide_not.symm (decide_eq_decide.2 (by omega)) | exact (decide_eq_false (by omega)).symm | exact (decide_eq_true (by omega)).symm), trivial⟩ (.i (by repeat constructor))
        · refine EL.pass rfl rfl rfl ?_
          refine EL.pass rfl rfl rfl ?_
          refine EL.pickF rfl rfl rfl rfl ?_
          refine EL.assign rfl rfl rfl ?_
          refine EL.assign rfl rfl rfl ?_
          refine EL.assign rfl rfl rfl ?_
          exact EL.endK ⟨rfl, rfl, getB rfl (by first | exact decide_eq_decide.2 (by omega) | exact Eq.trans decide_not.symm (decide_eq_decide.2 (by omega)) | exact (decide_eq_false (by omega)).symm | exact (decide_eq_true (by omega)).symm), getB rfl (by first | exact decide_eq_decide.2 (by omega) | exact Eq.trans decide_not.symm (decide_eq_decide.2 (by omega)) | exact (decide_eq_false (by omega)).symm | exact (decide_eq_true (by omega)).symm), getB rfl (by first | exact decide_eq_decide.2 (by omega) | exact Eq.trans decide_not.symm (decide_eq_decide.2 (by omega)) | exact (decide_eq_false (by omega)).symm | exact (decide_eq_true (by omega)).symm), trivial⟩ (.i (by repeat constructor))
      · refine EL.pass rfl rfl rfl ?_
        refine EL.pass rfl rfl rfl ?_
        refine EL.pickF rfl rfl rfl rfl ?_
        refine EL.move rfl rfl rfl ?_
        refine EL.geq rfl rfl rfl rfl ?_
        refine EL.move rfl rfl rfl ?_
        first | refine EL.splitD (d := 24) rfl (fun hp24 => ?_) (fun hp24 => ?_) | refine EL.splitN (d := 24) rfl (fun hp24 => ?_) (fun hp24 => ?_) | refine EL.splitB (d := 24) rfl (fun hp24 => ?_) (fun hp24 => ?_)
        · refine EL.move rfl rfl rfl ?_
          refine EL.leq rfl rfl rfl rfl ?_
          refine EL.pickT rfl rfl rfl rfl ?_
          refine EL.assign rfl rfl rfl ?_
          refine EL.assign rfl rfl rfl ?_
          refine EL.assign rfl rfl rfl ?_
          exact EL.endK ⟨rfl, rfl, getB rfl (by first | exact decide_eq_decide.2 (by omega) | exact Eq.trans decide_not.symm (decide_eq_decide.2 (by omega)) | exact (decide_eq_false (by omega)).symm | exact (decide_eq_true (by omega)).symm), getB rfl (by first | exact decide_eq_decide.2 (by omega) | exact Eq.trans decide_not.symm (decide_eq_decide.2 (by omega)) | exact (decide_eq_false (by omega)).symm | exact (decide_eq_true (by omega)).symm), getB rfl (by first | exact decide_eq_decide.2 (by omega) | exact Eq.trans decide_not.symm (decide_eq_decide.2 (by omega)) | exact (decide_eq_false (by omega)).symm | exact (decide_eq_true (by omega)).symm), trivial⟩ (.i (by repeat constructor))
        · refine EL.pass rfl rfl rfl ?_
          refine EL.pass rfl rfl rfl ?_
          refine EL.pickF rfl rfl rfl rfl ?_
          refine EL.assign rfl rfl rfl ?_
          refine EL.assign rfl rfl rfl ?_
          refine EL.assign rfl rfl rfl ?_
          exact EL.endK ⟨rfl, rfl, getB rfl (by first | exact decide_eq_decide.2 (by omega) | exact Eq.trans decide_not.symm (decide_eq_decide.2 (by omega)) | exact (decide_eq_false (by omega)).symm | exact (decide_eq_true (by omega)).symm), getB rfl (by first | exact decide_eq_decide.2 (by omega) | exact Eq.trans decide_not.symm (decide_eq_decide.2 (by omega)) | exact (decide_eq_false (by omega)).symm | exact (decide_eq_true (by omega)).symm), getB rfl (by first | exact decide_eq_decide.2 (by omega) | exact Eq.trans decide_not.symm (decide_eq_decide.2 (by omega)) | exact (decide_eq_false (by omega)).symm | exact (decide_eq_true (by omega)).symm), trivial⟩ (.i (by repeat constructor))
    · refine EL.pass rfl rfl rfl ?_
      refine EL.pass rfl rfl rfl ?_
      refine EL.pickF rfl rfl rfl rfl ?_
      refine EL.move rfl rfl rfl ?_
      refine EL.geq rfl rfl rfl rfl ?_
      refine EL.move rfl rfl rfl ?_
      first | refine EL.splitD (d := 18) rfl (fun hp18 => ?_) (fun hp18 => ?_) | refine EL.splitN (d := 18) rfl (fun hp18 => ?_) (fun hp18 => ?_) | refine EL.splitB (d := 18) rfl (fun hp18 => ?_) (fun hp18 => ?_)
      · refine EL.move rfl rfl rfl ?_
        refine EL.leq rfl rfl rfl rfl ?_
        refine EL.pickT rfl rfl rfl rfl ?_
        refine EL.move rfl rfl rfl ?_
        refine EL.geq rfl rfl rfl rfl ?_
        refine EL.move rfl rfl rfl ?_
        first | refine EL.splitD (d := 24) rfl (fun hp24 => ?_) (fun hp24 => ?_) | refine EL.splitN (d := 24) rfl (fun hp24 => ?_) (fun hp24 => ?_) | refine EL.splitB (d := 24) rfl (fun hp24 => ?_) (fun hp24 => ?_)
        · refine EL.move rfl rfl rfl ?_
          refine EL.leq rfl rfl rfl rfl ?_
          refine EL.pickT rfl rfl rfl rfl ?_
          refine EL.assign rfl rfl rfl ?_
          refine EL.assign rfl rfl rfl ?_
          refine EL.assign rfl rfl rfl ?_
          exact EL.endK ⟨rfl, rfl, getB rfl (by first | exact decide_eq_decide.2 (by omega) | exact Eq.trans decide_not.symm (decide_eq_decide.2 (by omega)) | exact (decide_eq_false (by omega)).symm | exact (decide_eq_true (by omega)).symm), getB rfl (by first | exact decide_eq_decide.2 (by omega) | exact Eq.trans decide_not.symm (decide_eq_decide.2 (by omega)) | exact (decide_eq_false (by omega)).symm | exact (decide_eq_true (by omega)).symm), getB rfl (by first | exact decide_eq_decide.2 (by omega) | exact Eq.trans decide_not.symm (decide_eq_decide.2 (by omega)) | exact (decide_eq_false (by omega)).symm | exact (decide_eq_true (by omega)).symm), trivial⟩ (.i (by repeat constructor))
        · refine EL.pass rfl rfl rfl ?_
          refine EL.pass rfl rfl rfl ?_
          refine EL.pickF rfl rfl rfl rfl ?_
          refine EL.assign rfl rfl rfl ?_
          refine EL.assign rfl rfl rfl ?_
          refine EL.assign rfl rfl rfl ?_
          exact EL.endK ⟨rfl, rfl, getB rfl (by first | exact decide_eq_decide.2 (by omega) | exact Eq.trans decide_not.symm (decide_eq_decide.2 (by omega)) | exact (decide_eq_false (by omega)).symm | exact (decide_eq_true (by omega)).symm), getB rfl (by first | exact decide_eq_decide.2 (by omega) | exact Eq.trans decide_not.symm (decide_eq_decide.2 (by omega)) | exact (decide_eq_false (by omega)).symm | exact (decide_eq_true (by omega)).symm), getB rfl (by first | exact decide_eq_decide.2 (by omega) | exact Eq.trans decide_not.symm (decide_eq_decide.2 (by omega)) | exact (decide_eq_false (by omega)).symm | exact (decide_eq_true (by omega)).symm), trivial⟩ (.i (by repeat constructor))
      · refine EL.pass rfl rfl rfl ?_
        refine EL.pass rfl rfl rfl ?_
        refine EL.pickF rfl rfl rfl rfl ?_
        refine EL.move rfl rfl rfl ?_
        refine EL.geq rfl rfl rfl rfl ?_
        refine EL.move rfl rfl rfl ?_
        first | refine EL.splitD (d := 24) rfl (fun hp24 => ?_) (fun hp24 => ?_) | refine EL.splitN (d := 24) rfl (fun hp24 => ?_) (fun hp24 => ?_) | refine EL.splitB (d := 24) rfl (fun hp24 => ?_) (fun hp24 => ?_)
        · refine EL.move rfl rfl rfl ?_
          refine EL.leq rfl rfl rfl rfl ?_
          refine EL.pickT rfl rfl rfl rfl ?_
          refine EL.assign rfl rfl rfl ?_
          refine EL.assign rfl rfl rfl ?_
          refine EL.assign rfl rfl rfl ?_
          exact EL.endK ⟨rfl, rfl, getB rfl (by first | exact decide_eq_decide.2 (by omega) | exact Eq.trans decide_not.symm (decide_eq_decide.2 (by omega)) | exact (decide_eq_false (by omega)).symm | exact (decide_eq_true (by omega)).symm), getB rfl (by first | exact decide_eq_decide.2 (by omega) | exact Eq.trans decide_not.symm (decide_eq_decide.2 (by omega)) | exact (decide_eq_false (by omega)).symm | exact (decide_eq_true (by omega)).symm), getB rfl (by first | exact decide_eq_decide.2 (by omega) | exact Eq.trans decide_not.symm (decide_eq_decide.2 (by omega)) | exact (decide_eq_false (by omega)).symm | exact (decide_eq_true (by omega)).symm), trivial⟩ (.i (by repeat constructor))
        · refine EL.pass rfl rfl rfl ?_
          refine EL.pass rfl rfl rfl ?_
          refine EL.pickF rfl rfl rfl rfl ?_
          refine EL.assign rfl rfl rfl ?_
          refine EL.assign rfl rfl rfl ?_
          refine EL.assign rfl rfl rfl ?_
          exact EL.endK ⟨rfl, rfl, getB rfl (by first | exact decide_eq_decide.2 (by omega) | exact Eq.trans decide_not.symm (decide_eq_decide.2 (by omega)) | exact (decide_eq_false (by omega)).symm | exact (decide_eq_true (by omega)).symm), getB rfl (by first | exact decide_eq_decide.2 (by omega) | exact Eq.trans decide_not.symm (decide_eq_decide.2 (by omega)) | exact (decide_eq_false (by omega)).symm | exact (decide_eq_true (by omega)).symm), getB rfl (by first | exact decide_eq_decide.2 (by omega) | exact Eq.trans decide_not.symm (decide_eq_decide.2 (by omega)) | exact (decide_eq_false (by omega)).symm | exact (decide_eq_true (by omega)).symm), trivial⟩ (.i (by repeat constructor))
  refine .go ?_; repeat constructor
  refine EL.cut [(0, Sv l), (1, Uv b), (6, .bool (bUp b.toNat)), (7, .bool (bLo b.toNat)), (8, .bool (bDi b.toNat)), (9, .bool (bGr b.toNat))] [] ?_ ?_
  · refine .go ?_; repeat constructor
    refine EL.move rfl rfl rfl ?_
    refine EL.gtr rfl rfl rfl rfl ?_
    refine EL.move rfl rfl rfl ?_
    first | refine EL.splitD (d := 30) rfl (fun hp30 => ?_) (fun hp30 => ?_) | refine EL.splitN (d := 30) rfl (fun hp30 => ?_) (fun hp30 => ?_) | refine EL.splitB (d := 30) rfl (fun hp30 => ?_) (fun hp30 => ?_)
    · refine EL.move rfl rfl rfl ?_
      refine EL.lss rfl rfl rfl rfl ?_
      refine EL.pickT rfl rfl rfl rfl ?_
      refine EL.assign rfl rfl rfl ?_
      exact EL.endK ⟨rfl, rfl, rfl, rfl, rfl, getB rfl (by first | exact decide_eq_decide.2 (by omega) | exact Eq.trans decide_not.symm (decide_eq_decide.2 (by omega)) | exact (decide_eq_false (by omega)).symm | exact (decide_eq_true (by omega)).symm), trivial⟩ (.i (by repeat constructor))
    · refine EL.pass rfl rfl rfl ?_
      refine EL.pass rfl rfl rfl ?_
      refine EL.pickF rfl rfl rfl rfl ?_
      refine EL.assign rfl rfl rfl ?_
      exact EL.endK ⟨rfl, rfl, rfl, rfl, rfl, getB rfl (by first | exact decide_eq_decide.2 (by omega) | exact Eq.trans decide_not.symm (decide_eq_decide.2 (by omega)) | exact (decide_eq_false (by omega)).symm | exact (decide_eq_true (by omega)).symm), trivial⟩ (.i (by repeat constructor))
  refine .go ?_; repeat constructor
  refine EL.move rfl rfl rfl ?_
  refine .go ?_; repeat constructor
  refine EL.eqlS rfl rfl rfl rfl ?_
  refine EL.assign rfl rfl rfl ?_
  refine .go ?_; repeat constructor
  refine ES.condD rfl (fun he0 => ?_) (fun hn0 => ?_)
  · subst he0
    refine .go ?_; repeat constructor
    refine EL.move rfl rfl rfl ?_
    refine EL.move rfl rfl rfl ?_
    first | refine EL.splitD (d := 38) rfl (fun hp38 => ?_) (fun hp38 => ?_) | refine EL.splitN (d := 38) rfl (fun hp38 => ?_) (fun hp38 => ?_) | refine EL.splitB (d := 38) rfl (fun hp38 => ?_) (fun hp38 => ?_)
    · refine EL.pass rfl rfl rfl ?_
      refine EL.pickT rfl rfl rfl rfl ?_
      refine EL.assign rfl rfl rfl ?_
      refine EL.assign rfl rfl rfl ?_
      focus ((refine .go ?_; repeat constructor); exact PX.ret rfl Try.results123 (.cons (.tmp rfl) (.cons (.tmp rfl) .nil)) (fun w hs => ⟨(), congrArg (fun x => Ending.returned (.tuple #[.bool x, .bool true])) (by first | exact decide_eq_decide.2 (by omega) | exact Eq.trans decide_not.symm (decide_eq_decide.2 (by omega)) | exact (decide_eq_false (by omega)).symm | exact (decide_eq_true (by omega)).symm), hs.ent (.nil _)⟩))
    · refine EL.move rfl rfl rfl ?_
      refine EL.pickF rfl rfl rfl rfl ?_
      refine EL.assign rfl rfl rfl ?_
      refine EL.assign rfl rfl rfl ?_
      focus ((refine .go ?_; repeat constructor); exact PX.ret rfl Try.results123 (.cons (.tmp rfl) (.cons (.tmp rfl) .nil)) (fun w hs => ⟨(), congrArg (fun x => Ending.returned (.tuple #[.bool x, .bool true])) (by first | exact decide_eq_decide.2 (by omega) | exact Eq.trans decide_not.symm (decide_eq_decide.2 (by omega)) | exact (decide_eq_false (by omega)).symm | exact (decide_eq_true (by omega)).symm), hs.ent (.nil _)⟩))
  refine .go ?_; repeat constructor
  refine EL.eqlS rfl rfl rfl rfl ?_
  refine EL.assign rfl rfl rfl ?_
  refine .go ?_; repeat constructor
  refine ES.condD rfl (fun he1 => ?_) (fun hn1 => ?_)
  · subst he1
    refine .go ?_; repeat constructor
    refine EL.move rfl rfl rfl ?_
    refine EL.assign rfl rfl rfl ?_
    refine EL.assign rfl rfl rfl ?_
    focus ((refine .go ?_; repeat constructor); exact PX.ret rfl Try.results123 (.cons (.tmp rfl) (.cons (.tmp rfl) .nil)) (fun w hs => ⟨(), congrArg (fun x => Ending.returned (.tuple #[.bool x, .bool true])) (by first | exact decide_eq_decide.2 (by omega) | exact Eq.trans decide_not.symm (decide_eq_decide.2 (by omega)) | exact (decide_eq_false (by omega)).symm | exact (decide_eq_true (by omega)).symm), hs.ent (.nil _)⟩))
  refine .go ?_; repeat constructor
  refine EL.eqlS rfl rfl rfl rfl ?_
  refine EL.assign rfl rfl rfl ?_
  refine .go ?_; repeat constructor
  refine ES.condD rfl (fun he2 => ?_) (fun hn2 => ?_)
  · subst he2
    refine .go ?_; repeat constructor
    refine EL.move rfl rfl rfl ?_
    refine EL.move rfl rfl rfl ?_
    first | refine EL.splitD (d := 47) rfl (fun hp47 => ?_) (fun hp47 => ?_) | refine EL.splitN (d := 47) rfl (fun hp47 => ?_) (fun hp47 => ?_) | refine EL.splitB (d := 47) rfl (fun hp47 => ?_) (fun hp47 => ?_)
    · refine EL.pass rfl rfl rfl ?_
      refine EL.pickT rfl rfl rfl rfl ?_
      refine EL.move rfl rfl rfl ?_
      refine EL.pass rfl rfl rfl ?_
      refine EL.pickT rfl rfl rfl rfl ?_
      refine EL.assign rfl rfl rfl ?_
      refine EL.assign rfl rfl rfl ?_
      focus ((refine .go ?_; repeat constructor); exact PX.ret rfl Try.results123 (.cons (.tmp rfl) (.cons (.tmp rfl) .nil)) (fun w hs => ⟨(), congrArg (fun x => Ending.returned (.tuple #[.bool x, .bool true])) (by first | exact decide_eq_decide.2 (by omega) | exact Eq.trans decide_not.symm (decide_eq_decide.2 (by omega)) | exact (decide_eq_false (by omega)).symm | exact (decide_eq_true (by omega)).symm), hs.ent (.nil _)⟩))
    · refine EL.move rfl rfl rfl ?_
      refine EL.pickF rfl rfl rfl rfl ?_
      refine EL.move rfl rfl rfl ?_
      first | refine EL.splitD (d := 50) rfl (fun hp50 => ?_) (fun hp50 => ?_) | refine EL.splitN (d := 50) rfl (fun hp50 => ?_) (fun hp50 => ?_) | refine EL.splitB (d := 50) rfl (fun hp50 => ?_) (fun hp50 => ?_)
      · refine EL.pass rfl rfl rfl ?_
        refine EL.pickT rfl rfl rfl rfl ?_
        refine EL.assign rfl rfl rfl ?_
        refine EL.assign rfl rfl rfl ?_
        focus ((refine .go ?_; repeat constructor); exact PX.ret rfl Try.results123 (.cons (.tmp rfl) (.cons (.tmp rfl) .nil)) (fun w hs => ⟨(), congrArg (fun x => Ending.returned (.tuple #[.bool x, .bool true])) (by first | exact decide_eq_decide.2 (by omega) | exact Eq.trans decide_not.symm (decide_eq_decide.2 (by omega)) | exact (decide_eq_false (by omega)).symm | exact (decide_eq_true (by omega)).symm), hs.ent (.nil _)⟩))
      · refine EL.move rfl rfl rfl ?_
        refine EL.pickF rfl rfl rfl rfl ?_
        refine EL.assign rfl rfl rfl ?_
        refine EL.assign rfl rfl rfl ?_
        focus ((refine .go ?_; repeat constructor); exact PX.ret rfl Try.results123 (.cons (.tmp rfl) (.cons (.tmp rfl) .nil)) (fun w hs => ⟨(), congrArg (fun x => Ending.returned (.tuple #[.bool x, .bool true])) (by first | exact decide_eq_decide.2 (by omega) | exact Eq.trans decide_not.symm (decide_eq_decide.2 (by omega)) | exact (decide_eq_false (by omega)).symm | exact (decide_eq_true (by omega)).symm), hs.ent (.nil _)⟩))
  refine .go ?_; repeat constructor
  refine EL.eqlS rfl rfl rfl rfl ?_
  refine EL.assign rfl rfl rfl ?_
  refine .go ?_; repeat constructor
  refine ES.condD rfl (fun he3 => ?_) (fun hn3 => ?_)
  · subst he3
    refine .go ?_; repeat constructor
    refine EL.move rfl rfl rfl ?_
    refine EL.assign rfl rfl rfl ?_
    refine EL.assign rfl rfl rfl ?_
    focus ((refine .go ?_; repeat constructor); exact PX.ret rfl Try.results123 (.cons (.tmp rfl) (.cons (.tmp rfl) .nil)) (fun w hs => ⟨(), congrArg (fun x => Ending.returned (.tuple #[.bool x, .bool true])) (by first | exact decide_eq_decide.2 (by omega) | exact Eq.trans decide_not.symm (decide_eq_decide.2 (by omega)) | exact (decide_eq_false (by omega)).symm | exact (decide_eq_true (by omega)).symm), hs.ent (.nil _)⟩))
  refine .go ?_; repeat constructor
  refine EL.eqlS rfl rfl rfl rfl ?_
  refine EL.assign rfl rfl rfl ?_
  refine .go ?_; repeat constructor
  refine ES.condD rfl (fun he4 => ?_) (fun hn4 => ?_)
  · subst he4
    refine .go ?_; repeat constructor
    refine EL.move rfl rfl rfl ?_
    refine EL.assign rfl rfl rfl ?_
    refine EL.assign rfl rfl rfl ?_
    focus ((refine .go ?_; repeat constructor); exact PX.ret rfl Try.results123 (.cons (.tmp rfl) (.cons (.tmp rfl) .nil)) (fun w hs => ⟨(), congrArg (fun x => Ending.returned (.tuple #[.bool x, .bool true])) (by first | exact decide_eq_decide.2 (by omega) | exact Eq.trans decide_not.symm (decide_eq_decide.2 (by omega)) | exact (decide_eq_false (by omega)).symm | exact (decide_eq_true (by omega)).symm), hs.ent (.nil _)⟩))
  refine .go ?_; repeat constructor
  refine EL.eqlS rfl rfl rfl rfl ?_
  refine EL.assign rfl rfl rfl ?_
  refine .go ?_; repeat constructor
  refine ES.condD rfl (fun he5 => ?_) (fun hn5 => ?_)
  · subst he5
    refine .go ?_; repeat constructor
    refine EL.move rfl rfl rfl ?_
    refine EL.eqlI rfl rfl rfl rfl ?_
    refine EL.move rfl rfl rfl ?_
    first | refine EL.splitD (d := 63) rfl (fun hp63 => ?_) (fun hp63 => ?_) | refine EL.splitN (d := 63) rfl (fun hp63 => ?_) (fun hp63 => ?_) | refine EL.splitB (d := 63) rfl (fun hp63 => ?_) (fun hp63 => ?_)
    · refine EL.pass rfl rfl rfl ?_
      refine EL.pass rfl rfl rfl ?_
      refine EL.pass rfl rfl rfl ?_
      refine EL.pass rfl rfl rfl ?_
      refine EL.pass rfl rfl rfl ?_
      refine EL.pass rfl rfl rfl ?_
      refine EL.pickT rfl rfl rfl rfl ?_
      refine EL.assign rfl rfl rfl ?_
      refine EL.assign rfl rfl rfl ?_
      focus ((refine .go ?_; repeat constructor); exact PX.ret rfl Try.results123 (.cons (.tmp rfl) (.cons (.tmp rfl) .nil)) (fun w hs => ⟨(), congrArg (fun x => Ending.returned (.tuple #[.bool x, .bool true])) (by first | exact decide_eq_decide.2 (by omega) | exact Eq.trans decide_not.symm (decide_eq_decide.2 (by omega)) | exact (decide_eq_false (by omega)).symm | exact (decide_eq_true (by omega)).symm), hs.ent (.nil _)⟩))
    · refine EL.move rfl rfl rfl ?_
      refine EL.geq rfl rfl rfl rfl ?_
      refine EL.move rfl rfl rfl ?_
      first | refine EL.splitD (d := 66) rfl (fun hp66 => ?_) (fun hp66 => ?_) | refine EL.splitN (d := 66) rfl (fun hp66 => ?_) (fun hp66 => ?_) | refine EL.splitB (d := 66) rfl (fun hp66 => ?_) (fun hp66 => ?_)
      · refine EL.move rfl rfl rfl ?_
        refine EL.leq rfl rfl rfl rfl ?_
        refine EL.pickT rfl rfl rfl rfl ?_
        refine EL.pickF rfl rfl rfl rfl ?_
        refine EL.assign rfl rfl rfl ?_
        refine EL.assign rfl rfl rfl ?_
        focus ((refine .go ?_; repeat constructor); exact PX.ret rfl Try.results123 (.cons (.tmp rfl) (.cons (.tmp rfl) .nil)) (fun w hs => ⟨(), congrArg (fun x => Ending.returned (.tuple #[.bool x, .bool true])) (by first | exact decide_eq_decide.2 (by omega) | exact Eq.trans decide_not.symm (decide_eq_decide.2 (by omega)) | exact (decide_eq_false (by omega)).symm | exact (decide_eq_true (by omega)).symm), hs.ent (.nil _)⟩))
      · refine EL.pass rfl rfl rfl ?_
        refine EL.pass rfl rfl rfl ?_
        refine EL.pickF rfl rfl rfl rfl ?_
        refine EL.pickF rfl rfl rfl rfl ?_
        refine EL.assign rfl rfl rfl ?_
        refine EL.assign rfl rfl rfl ?_
        focus ((refine .go ?_; repeat constructor); exact PX.ret rfl Try.results123 (.cons (.tmp rfl) (.cons (.tmp rfl) .nil)) (fun w hs => ⟨(), congrArg (fun x => Ending.returned (.tuple #[.bool x, .bool true])) (by first | exact decide_eq_decide.2 (by omega) | exact Eq.trans decide_not.symm (decide_eq_decide.2 (by omega)) | exact (decide_eq_false (by omega)).symm | exact (decide_eq_true (by omega)).symm), hs.ent (.nil _)⟩))
  refine .go ?_; repeat constructor
  refine EL.eqlS rfl rfl rfl rfl ?_
  refine EL.assign rfl rfl rfl ?_
  refine .go ?_; repeat constructor
  refine ES.condD rfl (fun he6 => ?_) (fun hn6 => ?_)
  · subst he6
    refine .go ?_; repeat constructor
    refine EL.move rfl rfl rfl ?_
    refine EL.eqlI rfl rfl rfl rfl ?_
    refine EL.move rfl rfl rfl ?_
    first | refine EL.splitD (d := 75) rfl (fun hp75 => ?_) (fun hp75 => ?_) | refine EL.splitN (d := 75) rfl (fun hp75 => ?_) (fun hp75 => ?_) | refine EL.splitB (d := 75) rfl (fun hp75 => ?_) (fun hp75 => ?_)
    · refine EL.pass rfl rfl rfl ?_
      refine EL.pass rfl rfl rfl ?_
      refine EL.pickT rfl rfl rfl rfl ?_
      refine EL.assign rfl rfl rfl ?_
      refine EL.assign rfl rfl rfl ?_
      focus ((refine .go ?_; repeat constructor); exact PX.ret rfl Try.results123 (.cons (.tmp rfl) (.cons (.tmp rfl) .nil)) (fun w hs => ⟨(), congrArg (fun x => Ending.returned (.tuple #[.bool x, .bool true])) (by first | exact decide_eq_decide.2 (by omega) | exact Eq.trans decide_not.symm (decide_eq_decide.2 (by omega)) | exact (decide_eq_false (by omega)).symm | exact (decide_eq_true (by omega)).symm), hs.ent (.nil _)⟩))
    · refine EL.move rfl rfl rfl ?_
      refine EL.eqlI rfl rfl rfl rfl ?_
      refine EL.pickF rfl rfl rfl rfl ?_
      refine EL.assign rfl rfl rfl ?_
      refine EL.assign rfl rfl rfl ?_
      focus ((refine .go ?_; repeat constructor); exact PX.ret rfl Try.results123 (.cons (.tmp rfl) (.cons (.tmp rfl) .nil)) (fun w hs => ⟨(), congrArg (fun x => Ending.returned (.tuple #[.bool x, .bool true])) (by first | exact decide_eq_decide.2 (by omega) | exact Eq.trans decide_not.symm (decide_eq_decide.2 (by omega)) | exact (decide_eq_false (by omega)).symm | exact (decide_eq_true (by omega)).symm), hs.ent (.nil _)⟩))
  refine .go ?_; repeat constructor
  refine EL.eqlS rfl rfl rfl rfl ?_
  refine EL.assign rfl rfl rfl ?_
  refine .go ?_; repeat constructor
  refine ES.condD rfl (fun he7 => ?_) (fun hn7 => ?_)
  · subst he7
    refine .go ?_; repeat constructor
    refine EL.move rfl rfl rfl ?_
    refine EL.assign rfl rfl rfl ?_
    refine EL.assign rfl rfl rfl ?_
    focus ((refine .go ?_; repeat constructor); exact PX.ret rfl Try.results123 (.cons (.tmp rfl) (.cons (.tmp rfl) .nil)) (fun w hs => ⟨(), congrArg (fun x => Ending.returned (.tuple #[.bool x, .bool true])) (by first | exact decide_eq_decide.2 (by omega) | exact Eq.trans decide_not.symm (decide_eq_decide.2 (by omega)) | exact (decide_eq_false (by omega)).symm | exact (decide_eq_true (by omega)).symm), hs.ent (.nil _)⟩))
  refine .go ?_; repeat constructor
  refine EL.eqlS rfl rfl rfl rfl ?_
  refine EL.assign rfl rfl rfl ?_
  refine .go ?_; repeat constructor
  refine ES.condD rfl (fun he8 => ?_) (fun hn8 => ?_)
  · subst he8
    refine .go ?_; repeat constructor
    refine EL.move rfl rfl rfl ?_
    refine EL.move rfl rfl rfl ?_
    first | refine EL.splitD (d := 85) rfl (fun hp85 => ?_) (fun hp85 => ?_) | refine EL.splitN (d := 85) rfl (fun hp85 => ?_) (fun hp85 => ?_) | refine EL.splitB (d := 85) rfl (fun hp85 => ?_) (fun hp85 => ?_)
    · refine EL.pass rfl rfl rfl ?_
      refine EL.pass rfl rfl rfl ?_
      refine EL.pickT rfl rfl rfl rfl ?_
      refine EL.assign rfl rfl rfl ?_
      refine EL.assign rfl rfl rfl ?_
      focus ((refine .go ?_; repeat constructor); exact PX.ret rfl Try.results123 (.cons (.tmp rfl) (.cons (.tmp rfl) .nil)) (fun w hs => ⟨(), congrArg (fun x => Ending.returned (.tuple #[.bool x, .bool true])) (by first | exact decide_eq_decide.2 (by omega) | exact Eq.trans decide_not.symm (decide_eq_decide.2 (by omega)) | exact (decide_eq_false (by omega)).symm | exact (decide_eq_true (by omega)).symm), hs.ent (.nil _)⟩))
    · refine EL.move rfl rfl rfl ?_
      refine EL.eqlI rfl rfl rfl rfl ?_
      refine EL.pickF rfl rfl rfl rfl ?_
      refine EL.assign rfl rfl rfl ?_
      refine EL.assign rfl rfl rfl ?_
      focus ((refine .go ?_; repeat constructor); exact PX.ret rfl Try.results123 (.cons (.tmp rfl) (.cons (.tmp rfl) .nil)) (fun w hs => ⟨(), congrArg (fun x => Ending.returned (.tuple #[.bool x, .bool true])) (by first | exact decide_eq_decide.2 (by omega) | exact Eq.trans decide_not.symm (decide_eq_decide.2 (by omega)) | exact (decide_eq_false (by omega)).symm | exact (decide_eq_true (by omega)).symm), hs.ent (.nil _)⟩))
  refine .go ?_; repeat constructor
  refine EL.eqlS rfl rfl rfl rfl ?_
  refine EL.assign rfl rfl rfl ?_
  refine .go ?_; repeat constructor
  refine ES.condD rfl (fun he9 => ?_) (fun hn9 => ?_)
  · subst he9
    refine .go ?_; repeat constructor
    refine EL.move rfl rfl rfl ?_
    refine EL.move rfl rfl rfl ?_
    first | refine EL.splitD (d := 92) rfl (fun hp92 => ?_) (fun hp92 => ?_) | refine EL.splitN (d := 92) rfl (fun hp92 => ?_) (fun hp92 => ?_) | refine EL.splitB (d := 92) rfl (fun hp92 => ?_) (fun hp92 => ?_)
    · refine EL.move rfl rfl rfl ?_
      refine EL.not rfl rfl rfl ?_
      refine EL.pickT rfl rfl rfl rfl ?_
      refine EL.move rfl rfl rfl ?_
      first | refine EL.splitD (d := 96) rfl (fun hp96 => ?_) (fun hp96 => ?_) | refine EL.splitN (d := 96) rfl (fun hp96 => ?_) (fun hp96 => ?_) | refine EL.splitB (d := 96) rfl (fun hp96 => ?_) (fun hp96 => ?_)
      · refine EL.move rfl rfl rfl ?_
        refine EL.not rfl rfl rfl ?_
        refine EL.pickT rfl rfl rfl rfl ?_
        refine EL.move rfl rfl rfl ?_
        first | refine EL.splitD (d := 100) rfl (fun hp100 => ?_) (fun hp100 => ?_) | refine EL.splitN (d := 100) rfl (fun hp100 => ?_) (fun hp100 => ?_) | refine EL.splitB (d := 100) rfl (fun hp100 => ?_) (fun hp100 => ?_)
        · refine EL.move rfl rfl rfl ?_
          refine EL.not rfl rfl rfl ?_
          refine EL.pickT rfl rfl rfl rfl ?_
          refine EL.assign rfl rfl rfl ?_
          refine EL.assign rfl rfl rfl ?_
          focus ((refine .go ?_; repeat constructor); exact PX.ret rfl Try.results123 (.cons (.tmp rfl) (.cons (.tmp rfl) .nil)) (fun w hs => ⟨(), congrArg (fun x => Ending.returned (.tuple #[.bool x, .bool true])) (by first | exact decide_eq_decide.2 (by omega) | exact Eq.trans decide_not.symm (decide_eq_decide.2 (by omega)) | exact (decide_eq_false (by omega)).symm | exact (decide_eq_true (by omega)).symm), hs.ent (.nil _)⟩))
        · refine EL.pass rfl rfl rfl ?_
          refine EL.pass rfl rfl rfl ?_
          refine EL.pickF rfl rfl rfl rfl ?_
          refine EL.assign rfl rfl rfl ?_
          refine EL.assign rfl rfl rfl ?_
          focus ((refine .go ?_; repeat constructor); exact PX.ret rfl Try.results123 (.cons (.tmp rfl) (.cons (.tmp rfl) .nil)) (fun w hs => ⟨(), congrArg (fun x => Ending.returned (.tuple #[.bool x, .bool true])) (by first | exact decide_eq_decide.2 (by omega) | exact Eq.trans decide_not.symm (decide_eq_decide.2 (by omega)) | exact (decide_eq_false (by omega)).symm | exact (decide_eq_true (by omega)).symm), hs.ent (.nil _)⟩))
      · refine EL.pass rfl rfl rfl ?_
        refine EL.pass rfl rfl rfl ?_
        refine EL.pickF rfl rfl rfl rfl ?_
        refine EL.move rfl rfl rfl ?_
        refine EL.pass rfl rfl rfl ?_
        refine EL.pass rfl rfl rfl ?_
        refine EL.pickF rfl rfl rfl rfl ?_
        refine EL.assign rfl rfl rfl ?_
        refine EL.assign rfl rfl rfl ?_
        focus ((refine .go ?_; repeat constructor); exact PX.ret rfl Try.results123 (.cons (.tmp rfl) (.cons (.tmp rfl) .nil)) (fun w hs => ⟨(), congrArg (fun x => Ending.returned (.tuple #[.bool x, .bool true])) (by first | exact decide_eq_decide.2 (by omega) | exact Eq.trans decide_not.symm (decide_eq_decide.2 (by omega)) | exact (decide_eq_false (by omega)).symm | exact (decide_eq_true (by omega)).symm), hs.ent (.nil _)⟩))
    · refine EL.pass rfl rfl rfl ?_
      refine EL.pass rfl rfl rfl ?_
      refine EL.pickF rfl rfl rfl rfl ?_
      refine EL.move rfl rfl rfl ?_
      refine EL.pass rfl rfl rfl ?_
      refine EL.pass rfl rfl rfl ?_
      refine EL.pickF rfl rfl rfl rfl ?_
      refine EL.move rfl rfl rfl ?_
      refine EL.pass rfl rfl rfl ?_
      refine EL.pass rfl rfl rfl ?_
      refine EL.pickF rfl rfl rfl rfl ?_
      refine EL.assign rfl rfl rfl ?_
      refine EL.assign rfl rfl rfl ?_
      focus ((refine .go ?_; repeat constructor); exact PX.ret rfl Try.results123 (.cons (.tmp rfl) (.cons (.tmp rfl) .nil)) (fun w hs => ⟨(), congrArg (fun x => Ending.returned (.tuple #[.bool x, .bool true])) (by first | exact decide_eq_decide.2 (by omega) | exact Eq.trans decide_not.symm (decide_eq_decide.2 (by omega)) | exact (decide_eq_false (by omega)).symm | exact (decide_eq_true (by omega)).symm), hs.ent (.nil _)⟩))
  refine .go ?_; repeat constructor
  refine EL.eqlS rfl rfl rfl rfl ?_
  refine EL.assign rfl rfl rfl ?_
  refine .go ?_; repeat constructor
  refine ES.condD rfl (fun he10 => ?_) (fun hn10 => ?_)
  · subst he10
    refine .go ?_; repeat constructor
    refine EL.move rfl rfl rfl ?_
    refine EL.lss rfl rfl rfl rfl ?_
    refine EL.move rfl rfl rfl ?_
    first | refine EL.splitD (d := 108) rfl (fun hp108 => ?_) (fun hp108 => ?_) | refine EL.splitN (d := 108) rfl (fun hp108 => ?_) (fun hp108 => ?_) | refine EL.splitB (d := 108) rfl (fun hp108 => ?_) (fun hp108 => ?_)
    · refine EL.pass rfl rfl rfl ?_
      refine EL.pass rfl rfl rfl ?_
      refine EL.pickT rfl rfl rfl rfl ?_
      refine EL.assign rfl rfl rfl ?_
      refine EL.assign rfl rfl rfl ?_
      focus ((refine .go ?_; repeat constructor); exact PX.ret rfl Try.results123 (.cons (.tmp rfl) (.cons (.tmp rfl) .nil)) (fun w hs => ⟨(), congrArg (fun x => Ending.returned (.tuple #[.bool x, .bool true])) (by first | exact decide_eq_decide.2 (by omega) | exact Eq.trans decide_not.symm (decide_eq_decide.2 (by omega)) | exact (decide_eq_false (by omega)).symm | exact (decide_eq_true (by omega)).symm), hs.ent (.nil _)⟩))
    · refine EL.move rfl rfl rfl ?_
      refine EL.eqlI rfl rfl rfl rfl ?_
      refine EL.pickF rfl rfl rfl rfl ?_
      refine EL.assign rfl rfl rfl ?_
      refine EL.assign rfl rfl rfl ?_
      focus ((refine .go ?_; repeat constructor); exact PX.ret rfl Try.results123 (.cons (.tmp rfl) (.cons (.tmp rfl) .nil)) (fun w hs => ⟨(), congrArg (fun x => Ending.returned (.tuple #[.bool x, .bool true])) (by first | exact decide_eq_decide.2 (by omega) | exact Eq.trans decide_not.symm (decide_eq_decide.2 (by omega)) | exact (decide_eq_false (by omega)).symm | exact (decide_eq_true (by omega)).symm), hs.ent (.nil _)⟩))
  refine .go ?_; repeat constructor
  refine EL.eqlS rfl rfl rfl rfl ?_
  refine EL.assign rfl rfl rfl ?_
  refine .go ?_; repeat constructor
  refine ES.condD rfl (fun he11 => ?_) (fun hn11 => ?_)
  · subst he11
    refine .go ?_; repeat constructor
    refine EL.move rfl rfl rfl ?_
    refine EL.move rfl rfl rfl ?_
    first | refine EL.splitD (d := 115) rfl (fun hp115 => ?_) (fun hp115 => ?_) | refine EL.splitN (d := 115) rfl (fun hp115 => ?_) (fun hp115 => ?_) | refine EL.splitB (d := 115) rfl (fun hp115 => ?_) (fun hp115 => ?_)
    · refine EL.pass rfl rfl rfl ?_
      refine EL.pass rfl rfl rfl ?_
      refine EL.pass rfl rfl rfl ?_
      refine EL.pass rfl rfl rfl ?_
      refine EL.pass rfl rfl rfl ?_
      refine EL.pass rfl rfl rfl ?_
      refine EL.pickT rfl rfl rfl rfl ?_
      refine EL.move rfl rfl rfl ?_
      refine EL.pass rfl rfl rfl ?_
      refine EL.pass rfl rfl rfl ?_
      refine EL.pass rfl rfl rfl ?_
      refine EL.pass rfl rfl rfl ?_
      refine EL.pass rfl rfl rfl ?_
      refine EL.pass rfl rfl rfl ?_
      refine EL.pickT rfl rfl rfl rfl ?_
      refine EL.assign rfl rfl rfl ?_
      refine EL.assign rfl rfl rfl ?_
      focus ((refine .go ?_; repeat constructor); exact PX.ret rfl Try.results123 (.cons (.tmp rfl) (.cons (.tmp rfl) .nil)) (fun w hs => ⟨(), congrArg (fun x => Ending.returned (.tuple #[.bool x, .bool true])) (by first | exact decide_eq_decide.2 (by omega) | exact Eq.trans decide_not.symm (decide_eq_decide.2 (by omega)) | exact (decide_eq_false (by omega)).symm | exact (decide_eq_true (by omega)).symm), hs.ent (.nil _)⟩))
    · refine EL.move rfl rfl rfl ?_
      refine EL.geq rfl rfl rfl rfl ?_
      refine EL.move rfl rfl rfl ?_
      first | refine EL.splitD (d := 118) rfl (fun hp118 => ?_) (fun hp118 => ?_) | refine EL.splitN (d := 118) rfl (fun hp118 => ?_) (fun hp118 => ?_) | refine EL.splitB (d := 118) rfl (fun hp118 => ?_) (fun hp118 => ?_)
      · refine EL.move rfl rfl rfl ?_
        refine EL.leq rfl rfl rfl rfl ?_
        refine EL.pickT rfl rfl rfl rfl ?_
        refine EL.pickF rfl rfl rfl rfl ?_
        refine EL.move rfl rfl rfl ?_
        first | refine EL.splitD (d := 123) rfl (fun hp123 => ?_) (fun hp123 => ?_) | refine EL.splitN (d := 123) rfl (fun hp123 => ?_) (fun hp123 => ?_) | refine EL.splitB (d := 123) rfl (fun hp123 => ?_) (fun hp123 => ?_)
        · refine EL.pass rfl rfl rfl ?_
          refine EL.pass rfl rfl rfl ?_
          refine EL.pass rfl rfl rfl ?_
          refine EL.pass rfl rfl rfl ?_
          refine EL.pass rfl rfl rfl ?_
          refine EL.pass rfl rfl rfl ?_
          refine EL.pickT rfl rfl rfl rfl ?_
          refine EL.assign rfl rfl rfl ?_
          refine EL.assign rfl rfl rfl ?_
          focus ((refine .go ?_; repeat constructor); exact PX.ret rfl Try.results123 (.cons (.tmp rfl) (.cons (.tmp rfl) .nil)) (fun w hs => ⟨(), congrArg (fun x => Ending.returned (.tuple #[.bool x, .bool true])) (by first | exact decide_eq_decide.2 (by omega) | exact Eq.trans decide_not.symm (decide_eq_decide.2 (by omega)) | exact (decide_eq_false (by omega)).symm | exact (decide_eq_true (by omega)).symm), hs.ent (.nil _)⟩))
        · refine EL.move rfl rfl rfl ?_
          refine EL.geq rfl rfl rfl rfl ?_
          refine EL.move rfl rfl rfl ?_
          first | refine EL.splitD (d := 126) rfl (fun hp126 => ?_) (fun hp126 => ?_) | refine EL.splitN (d := 126) rfl (fun hp126 => ?_) (fun hp126 => ?_) | refine EL.splitB (d := 126) rfl (fun hp126 => ?_) (fun hp126 => ?_)
          · refine EL.move rfl rfl rfl ?_
            refine EL.leq rfl rfl rfl rfl ?_
            refine EL.pickT rfl rfl rfl rfl ?_
            refine EL.pickF rfl rfl rfl rfl ?_
            refine EL.assign rfl rfl rfl ?_
            refine EL.assign rfl rfl rfl ?_
            focus ((refine .go ?_; repeat constructor); exact PX.ret rfl Try.results123 (.cons (.tmp rfl) (.cons (.tmp rfl) .nil)) (fun w hs => ⟨(), congrArg (fun x => Ending.returned (.tuple #[.bool x, .bool true])) (by first | exact decide_eq_decide.2 (by omega) | exact Eq.trans decide_not.symm (decide_eq_decide.2 (by omega)) | exact (decide_eq_false (by omega)).symm | exact (decide_eq_true (by omega)).symm), hs.ent (.nil _)⟩))
          · refine EL.pass rfl rfl rfl ?_
            refine EL.pass rfl rfl rfl ?_
            refine EL.pickF rfl rfl rfl rfl ?_
            refine EL.pickF rfl rfl rfl rfl ?_
            refine EL.assign rfl rfl rfl ?_
            refine EL.assign rfl rfl rfl ?_
            focus ((refine .go ?_; repeat constructor); exact PX.ret rfl Try.results123 (.cons (.tmp rfl) (.cons (.tmp rfl) .nil)) (fun w hs => ⟨(), congrArg (fun x => Ending.returned (.tuple #[.bool x, .bool true])) (by first | exact decide_eq_decide.2 (by omega) | exact Eq.trans decide_not.symm (decide_eq_decide.2 (by omega)) | exact (decide_eq_false (by omega)).symm | exact (decide_eq_true (by omega)).symm), hs.ent (.nil _)⟩))
      · refine EL.pass rfl rfl rfl ?_
        refine EL.pass rfl rfl rfl ?_
        refine EL.pickF rfl rfl rfl rfl ?_
        refine EL.pickF rfl rfl rfl rfl ?_
        refine EL.move rfl rfl rfl ?_
        refine EL.move rfl rfl rfl ?_
        refine EL.geq rfl rfl rfl rfl ?_
        refine EL.move rfl rfl rfl ?_
        first | refine EL.splitD (d := 126) rfl (fun hp126 => ?_) (fun hp126 => ?_) | refine EL.splitN (d := 126) rfl (fun hp126 => ?_) (fun hp126 => ?_) | refine EL.splitB (d := 126) rfl (fun hp126 => ?_) (fun hp126 => ?_)
        · refine EL.move rfl rfl rfl ?_
          refine EL.leq rfl rfl rfl rfl ?_
          refine EL.pickT rfl rfl rfl rfl ?_
          refine EL.pickF rfl rfl rfl rfl ?_
          refine EL.assign rfl rfl rfl ?_
          refine EL.assign rfl rfl rfl ?_
          focus ((refine .go ?_; repeat constructor); exact PX.ret rfl Try.results123 (.cons (.tmp rfl) (.cons (.tmp rfl) .nil)) (fun w hs => ⟨(), congrArg (fun x => Ending.returned (.tuple #[.bool x, .bool true])) (by first | exact decide_eq_decide.2 (by omega) | exact Eq.trans decide_not.symm (decide_eq_decide.2 (by omega)) | exact (decide_eq_false (by omega)).symm | exact (decide_eq_true (by omega)).symm), hs.ent (.nil _)⟩))
        · refine EL.pass rfl rfl rfl ?_
          refine EL.pass rfl rfl rfl ?_
          refine EL.pickF rfl rfl rfl rfl ?_
          refine EL.pickF rfl rfl rfl rfl ?_
          refine EL.assign rfl rfl rfl ?_
          refine EL.assign rfl rfl rfl ?_
          focus ((refine .go ?_; repeat constructor); exact PX.ret rfl Try.results123 (.cons (.tmp rfl) (.cons (.tmp rfl) .nil)) (fun w hs => ⟨(), congrArg (fun x => Ending.returned (.tuple #[.bool x, .bool true])) (by first | exact decide_eq_decide.2 (by omega) | exact Eq.trans decide_not.symm (decide_eq_decide.2 (by omega)) | exact (decide_eq_false (by omega)).symm | exact (decide_eq_true (by omega)).symm), hs.ent (.nil _)⟩))
  have hne : isB l b.toNat = false := by simp only [isB, *, if_false]
  have hno : okM l = false := decide_eq_false (by simp only [names12, List.mem_cons, List.not_mem_nil, or_false, *, not_false_eq_true])
  refine .go ?_; repeat constructor
  refine EL.assign rfl rfl rfl ?_
  refine EL.assign rfl rfl rfl ?_
  refine .go ?_; repeat constructor
  exact PX.ret rfl Try.results123 (.cons (.tmp rfl) (.cons (.tmp rfl) .nil)) (fun w hs => ⟨(), by rw [hne, hno]; rfl, hs.ent (.nil _)⟩)
theorem is_ck (l : List UInt8) (b : UInt8) (k : Nat) (hk : b.toNat = k) (w : World) : Pure Try.prog 123 #[Sv l, Uv b] (fun _ : Unit => .tuple #[.bool (isB l k), .bool (okM l)]) (fun _ => []) w := by subst hk; exact is_c l b w
theorem add_ck (g : Nat) (s : BS) (b : UInt8) (k : Nat) (hk : b.toNat = k) : Mut Try.prog 117 #[Pv g 0, Uv b] [SB g s] (fun _ : Unit => .tuple #[]) (fun _ => [SB g (addS s k)]) := by subst hk; exact add_c g s b
theorem class_c (l : List UInt8) (w : World) : Pure Try.prog 120 #[Sv l] (fun _ : Unit => .tuple #[Bs (classM l).1, Iv (classM l).2]) (fun _ => []) w := by
  refine calls_of_ES TB Try.func120 rfl _ Try.ntmps120 rfl (Sat.start w) ?_
  refine .go ?_; repeat constructor
  (refine EL.alloc rfl rfl rfl ?_; intro g2)
  refine EL.assign rfl rfl rfl ?_
  refine .go ?_; repeat constructor
  (refine EL.alloc rfl rfl rfl ?_; intro g4)
  refine .go ?_; repeat constructor
  refine EL.move rfl rfl rfl ?_
  refine .go ?_; repeat constructor
  refine ES.blkEq (g := g4) (o' := .cells (fillS (isB l) 0).cells 79) (by repeat constructor) (by rw [fillS]; rfl) ?_
  refine ES.loop (σ := Nat) (fun i => i ≤ 256 ∧ (0 < i → l ∈ names12)) (fun i => [(0, Sv l), (2, Pv g2 0), (4, Pv g4 0), (8, Iv i)]) (fun i => [SB g4 (fillS (isB l) i), SB g2 zeroS]) (fun i => 256 - i) 0 ⟨by omega, fun h => absurd h (by omega)⟩ ⟨rfl, rfl, rfl, rfl, trivial⟩ (.i (by repeat constructor)) ?_
  rintro i ⟨hi, hpos⟩
  refine .go ?_; repeat constructor
  refine EL.lss rfl rfl rfl rfl ?_
  refine .go ?_; repeat constructor
  refine ES.condD rfl (fun hlt => ?_) (fun hge => ?_)
  · have hlt' : i < 256 := by omega
    have hk8 : (UInt8.ofNat i).toNat = i := by simp; omega
    have ha := add_ck g4 (fillS (isB l) i) (UInt8.ofNat i) i hk8
    refine .go ?_; repeat constructor
    refine EL.move rfl rfl rfl ?_
    refine EL.assign rfl rfl rfl ?_
    refine .go ?_; repeat constructor
    refine EL.move rfl rfl rfl ?_
    refine EL.move rfl rfl rfl ?_
    refine EL.convI ((UInt8.ofNat i).toNat : Int) rfl rfl rfl rfl rfl rfl (by rw [hk8]; exact wrap_u8 _ hlt') ?_
    refine EL.callP rfl rfl rfl ent123 rfl (is_ck l (UInt8.ofNat i) i hk8) ?_
    refine EL.move rfl rfl rfl ?_
    refine EL.extract rfl rfl rfl rfl ?_
    refine EL.extract rfl rfl rfl rfl ?_
    refine EL.assign rfl rfl rfl ?_
    refine EL.assign rfl rfl rfl ?_
    refine .go ?_; repeat constructor
    refine EL.move rfl rfl rfl ?_
    refine EL.not rfl rfl rfl ?_
    refine .go ?_; repeat constructor
    refine ES.condN (p := l ∈ names12) rfl (fun hno => ?_) (fun hok => ?_)
    · have hok0 : okM l = false := decide_eq_false hno
      have hm : classM l = (zeroS, 8) := by simp only [classM, hok0, Bool.false_eq_true, if_false]
      refine .go ?_; repeat constructor
      refine EL.buildZA rfl rfl rfl rfl rfl ?_
      (apply EL.storeAll; exact rfl; exact rfl; exact rfl; exact rfl; exact rfl; (case p => repeat constructor); exact rfl; (case h1 => exact (by first | rfl | exact all1 rfl | (intro u hu; simp only [List.mem_cons, List.not_mem_nil, or_false] at hu; rcases hu with rfl | rfl | rfl | rfl <;> rfl) | (intro u hu; simp at hu; rcases hu with rfl | rfl | rfl | rfl <;> rfl) | (intro u hu; simp at hu; rcases hu with rfl | rfl | rfl <;> rfl) | (intro u hu; simp at hu; rcases hu with rfl | rfl <;> rfl) | (intro u hu; simp at hu; obtain ⟨_, _, rfl⟩ := hu; rfl))))
      refine EL.assign rfl rfl rfl ?_
      refine .go ?_; repeat constructor
      exact PX.ret rfl Try.results120 (.cons (.blkA rfl rfl rfl (by repeat constructor) rfl) (.cons (.tmp rfl) .nil)) (fun w hs => ⟨(), by rw [hm]; rfl, hs.ent (.nil _)⟩)
    · have hfs : ∀ hb : isB l i = true, addS (fillS (isB l) i) i = fillS (isB l) (i + 1) := fun hb => by rw [fillS, if_pos hb]
      have hfn : ∀ hb : isB l i = false, fillS (isB l) i = fillS (isB l) (i + 1) := fun hb => by rw [fillS, if_neg (by rw [hb]; simp)]
      refine .go ?_; repeat constructor
      refine EL.move rfl rfl rfl ?_
      refine .go ?_; repeat constructor
      refine ES.cutC (X := Unit) (fun _ => [(0, Sv l), (2, Pv g2 0), (4, Pv g4 0), (8, Iv i)]) (fun _ => [SB g4 (fillS (isB l) (i + 1)), SB g2 zeroS]) ?_ (fun _ => ?_)
      · refine ES.cond rfl (fun hb => ?_) (fun hb => ?_)
        · rw [hfs hb] at ha
          refine .go ?_; repeat constructor
          refine EL.move rfl rfl rfl ?_
          refine EL.convI ((UInt8.ofNat i).toNat : Int) rfl rfl rfl rfl rfl rfl (by rw [hk8]; exact wrap_u8 _ hlt') ?_
          refine EL.callM1 rfl rfl rfl ent117 rfl ha (by repeat constructor) ?_
          refine .go ?_; repeat constructor
          exact PX.cutX () ⟨rfl, rfl, rfl, rfl, trivial⟩ (.i (by repeat constructor))
        · rw [hfn hb]
          refine .go ?_; repeat constructor
          exact PX.cutX () ⟨rfl, rfl, rfl, rfl, trivial⟩ (.i (by repeat constructor))
      refine .go ?_; repeat constructor
      refine EL.add1 rfl rfl rfl rfl (by omega) ?_
      refine EL.move rfl rfl rfl ?_
      refine .go ?_; repeat constructor
      exact PX.loop (i + 1) ⟨by omega, fun _ => hok⟩ (by omega) ⟨rfl, rfl, rfl, rfl, trivial⟩ (.i (by repeat constructor))
  · obtain rfl : i = 256 := by omega
    have hok1 : okM l = true := decide_eq_true (hpos (by omega))
    have hm : classM l = (fillS (isB l) 256, 0) := by simp only [classM, hok1, if_true]
    refine .go ?_; repeat constructor
    (apply EL.loadAggB; exact rfl; exact rfl; exact rfl; exact rfl; exact rfl; (case hm => repeat constructor); exact rfl)
    (apply EL.storeAll; exact rfl; exact rfl; exact rfl; exact rfl; exact rfl; (case p => repeat constructor); exact rfl; (case h1 => exact (by first | rfl | exact all1 rfl | (intro u hu; simp only [List.mem_cons, List.not_mem_nil, or_false] at hu; rcases hu with rfl | rfl | rfl | rfl <;> rfl) | (intro u hu; simp at hu; rcases hu with rfl | rfl | rfl | rfl <;> rfl) | (intro u hu; simp at hu; rcases hu with rfl | rfl | rfl <;> rfl) | (intro u hu; simp at hu; rcases hu with rfl | rfl <;> rfl) | (intro u hu; simp at hu; obtain ⟨_, _, rfl⟩ := hu; rfl))))
    refine EL.assign rfl rfl rfl ?_
    refine .go ?_; repeat constructor
    exact PX.ret rfl Try.results120 (.cons (.blkA rfl rfl rfl (by repeat constructor) rfl) (.cons (.tmp rfl) .nil)) (fun w hs => ⟨(), by rw [hm]; rfl, hs.ent (.nil _)⟩)
end Go.Proofs.Ytblpgpgbnlhjlaa
namespace Go.Proofs.Ytblpgpgbnlhjlaa.Sl
open Go Go.RowKit
set_option linter.unusedVariables false
set_option linter.unusedSimpArgs false
def MutAt {X : Type} (P : Program) (f : FuncId) (argv : Array Value) (Hq : List HA) (val : X → Value) (HX : X → List HA) (w0 : World) (B : Nat) : Prop :=
  ∀ (R : List HA) (w : World), Sat w0 B (Hq ++ R) w → Calls P f argv w fun e w' => ∃ x, e = .returned (val x) ∧ Sat w0 B (HX x ++ R) w'
theorem all1 {vs : List Value} (h : vs.all (fun u : Value => u.oneCell') = true) : ∀ u ∈ vs, u.oneCell' = true := fun u hu => List.all_eq_true.1 h u hu
section m
variable {C : Cx} {all : Array Oper} {ops : List Oper} {Q : Qt} {E : Env} {H R : List HA} {d ty : Nat} {pos : String} {af : Array Edge} {gd : Option (Nat × Bool)}
theorem EL.callMw {X : Type} {fo : Operand} {ar : Array Operand} {tys : Array TypeId} {f : FuncId} {vs : List Value} {Hq : List HA} {val : X → Value} {HX : X → List HA} (hg : guardOk all E gd = some true) (hf : E.ev fo = some (.func (.func f) #[] #[])) (ha : E.evl ar.toList = some vs)
    (he : Enters C.P f) (hd : Nat.blt d C.n = true) (hc : MutAt C.P f vs.toArray Hq val HX C.w0 C.B) (tk : Takes H Hq R)
    (k : ∀ x, EL C all ops Q ((d, val x) :: E) (HX x ++ R)) : EL C all (⟨some d, .call { callee := .value fo, args := ar, argTypes := tys }, ty, pos, af, gd⟩ :: ops) Q E H :=
  EL.call val (fun x => HX x ++ R) hg hf ha (by simp) he hd (fun w hs => hc R w (hs.perm tk.perm)) k
theorem EL.callMw1 {fo : Operand} {ar : Array Operand} {tys : Array TypeId} {f : FuncId} {vs : List Value} {Hq Hr : List HA} {v : Value} (hg : guardOk all E gd = some true) (hf : E.ev fo = some (.func (.func f) #[] #[])) (ha : E.evl ar.toList = some vs)
    (he : Enters C.P f) (hd : Nat.blt d C.n = true) (hc : MutAt C.P f vs.toArray Hq (fun _ : Unit => v) (fun _ => Hr) C.w0 C.B) (tk : Takes H Hq R)
    (k : EL C all ops Q ((d, v) :: E) (Hr ++ R)) : EL C all (⟨some d, .call { callee := .value fo, args := ar, argTypes := tys }, ty, pos, af, gd⟩ :: ops) Q E H :=
  EL.callMw hg hf ha he hd hc tk (fun _ => k)
end m
section mm
variable {C : Cx} {E : Env} {H : List HA} {d ty : Nat} {pos : String} {af : Array Edge} {gd : Option (Nat × Bool)} {x y : Operand} {m n : Int} {k : IntKind} {tys : Array TypeId}
theorem RV.minI (hx : E.ev x = some (.int k m)) (hy : E.ev y = some (.int k n)) : RunV C E H ⟨some d, .call { callee := .builtin .min, args := #[x, y], argTypes := tys }, ty, pos, af, gd⟩ (.int k (min m n)) := fun a w ha => by
  have h : (if n < m then n else m) = min m n := by omega
  simp [execOp, ha.1.ev hx, ha.1.ev hy, resolve, invoke, builtin, Builtin.min_, Builtin.min2, Result.andThen, h]
theorem RV.maxI (hx : E.ev x = some (.int k m)) (hy : E.ev y = some (.int k n)) : RunV C E H ⟨some d, .call { callee := .builtin .max, args := #[x, y], argTypes := tys }, ty, pos, af, gd⟩ (.int k (max m n)) := fun a w ha => by
  have h : (if m < n then n else m) = max m n := by omega
  simp [execOp, ha.1.ev hx, ha.1.ev hy, resolve, invoke, builtin, Builtin.max_, Builtin.max2, Result.andThen, h]
end mm
section p
variable {C : Cx} {all : Array Oper} {Q : Qt} {E : Env} {H Hs : List HA} {f : Nat} {L : Array Bool}
theorem ED.partB {d : Nat} {b : Bool} (hv : E.get d = some (.bool b)) (ht : b = true → ED C all Hs f L ((d, .bool true) :: E) H Q) (hf : b = false → ED C all Hs f L ((d, .bool false) :: E) H Q) : ED C all Hs f L E H Q := by
  intro a w ha hs
  have hslot := ha.1.get d _ hv
  have fit : ∀ c : Bool, b = c → Fits C.n C.D ((d, .bool c) :: E) a := fun c hb => ⟨ha.1.dfr, ha.1.size, fun d' v' h' => by
    rw [Env.get_cons] at h'
    by_cases e : d = d'
    · subst e; rw [if_pos rfl] at h'; rw [← Option.some.inj h', hslot, hb]
    · rw [if_neg e] at h'; exact ha.1.get d' v' h'⟩
  cases hb : b with
  | true => exact ht hb a w ⟨fit true hb, ha.2⟩ hs
  | false => exact hf hb a w ⟨fit false hb, ha.2⟩ hs
theorem ED.partN {d : Nat} {p : Prop} [Decidable p] (hv : E.get d = some (.bool (!decide p))) (ht : ¬ p → ED C all Hs f L ((d, .bool true) :: E) H Q) (hf : p → ED C all Hs f L ((d, .bool false) :: E) H Q) : ED C all Hs f L E H Q :=
  ED.partB hv (fun e => ht (by simpa using e)) (fun e => hf (by simpa using e))
end p
section imp
variable {C : Cx} {cs : List Code} {all : Array Oper} {ops : List Oper} {Q : Qt} {E : Env} {H H' : List HA}
theorem ES.imp (h : ∀ w, Sat C.w0 C.B H w → Sat C.w0 C.B H' w) (k : ES C cs Q E H') : ES C cs Q E H := fun a w ha => k a w ⟨ha.1, h w ha.2⟩
theorem EL.imp (h : ∀ w, Sat C.w0 C.B H w → Sat C.w0 C.B H' w) (k : EL C all ops Q E H') : EL C all ops Q E H := fun a w ha => k a w ⟨ha.1, h w ha.2⟩
end imp
end Go.Proofs.Ytblpgpgbnlhjlaa.Sl
namespace Go.Proofs.Ytblpgpgbnlhjlaa
open Go Go.RowKit Sl
set_option maxRecDepth 100000
set_option maxHeartbeats 8000000
set_option linter.unusedVariables false
set_option linter.unusedSimpArgs false
attribute [local irreducible] ES EL PX wps
def idxB (l : List UInt8) (c : UInt8) : Int := Lib.indexByte l c
def GR (w : World) (B : Nat) : Prop := ∃ m : Int, Rd w B (some ⟨0, 0, none⟩) [Iv m]
theorem GR.sat {w0 w : World} {B : Nat} {H : List HA} (h : GR w0 B) (hs : Sat w0 B H w) : GR w w.heap.size := by
  obtain ⟨m, hm⟩ := h
  exact ⟨m, Rd.sat hm hs⟩
theorem GR.of {w : World} (h : w.ShapedOpen Try.prog) : GR w w.heap.size := by
  obtain ⟨m, hm⟩ := Try.lays143.s1_3 w h
  have hm' : w.cell? ⟨0, 0, none⟩ = some (.int .i64 m) := hm
  refine ⟨m, fun _ => ⟨_, _, rfl, World.block_lt_of_cell? _ _ hm', fun j v hj => ?_⟩⟩
  cases j with
  | zero => simp only [List.getElem?_cons_zero, Option.some.injEq] at hj; subst hj; exact hm'
  | succ j => simp at hj
theorem sindex_c (l sub : List UInt8) (hl : l.length < 4294967281) (w : World) (hG : GR w w.heap.size) : Pure Try.prog 122 #[Sv l, Sv sub] (fun _ : Unit => Iv (Lib.index l sub)) (fun _ => []) w := by
  obtain ⟨m, hm⟩ := hG
  obtain ⟨g, off, h1, _, h3⟩ := hm (by simp)
  have hc : w.cell? ⟨0, 0, none⟩ = some (.int .i64 m) := by
    cases h1; exact h3 0 _ rfl
  exact (Any.strings_Index { Try.lays143 with } ⟨l.toArray⟩ ⟨sub.toArray⟩ m w hl hc).mono fun e w' ⟨he, hw⟩ => ⟨(), he, by subst hw; exact Sat.start _⟩
theorem ext_index (l : List UInt8) (c : UInt8) (w : World) : (callFunc 124 #[Sv l, Uv c]).run Try.prog w = .ok (.value (Iv (idxB l c))) w := by
  rw [run_callFunc_extern (e := Extern.BytealgIndexByte.indexByte) Try.func124 (by kernel_rfl) (by kernel_rfl) (by kernel_rfl) (by kernel_rfl), Lib.run_indexByteString]
  simp [Result.andThen, idxB]
theorem lite_c (l : List UInt8) (c : UInt8) (w : World) : Pure Try.prog 121 #[Sv l, Uv c] (fun _ : Unit => Iv (idxB l c)) (fun _ => []) w := by
  refine calls_of_ES TB Try.func121 rfl _ Try.ntmps121 rfl (Sat.start w) ?_
  refine .go ?_; repeat constructor
  refine EL.assign rfl rfl rfl ?_
  refine .go ?_; repeat constructor
  refine EL.move rfl rfl rfl ?_
  refine EL.move rfl rfl rfl ?_
  refine EL.callE rfl rfl rfl rfl (ext_index l c) ?_
  refine EL.assign rfl rfl rfl ?_
  refine .go ?_; repeat constructor
  exact PX.ret rfl Try.results121 (.cons (.tmp rfl) .nil) (fun w hs => ⟨(), rfl, hs.ent (.nil _)⟩)
theorem index_c (l : List UInt8) (c : UInt8) (w : World) : Pure Try.prog 118 #[Sv l, Uv c] (fun _ : Unit => Iv (idxB l c)) (fun _ => []) w := by
  refine calls_of_ES TB Try.func118 rfl _ Try.ntmps118 rfl (Sat.start w) ?_
  refine .go ?_; repeat constructor
  refine EL.assign rfl rfl rfl ?_
  refine .go ?_; repeat constructor
  refine EL.move rfl rfl rfl ?_
  refine EL.move rfl rfl rfl ?_
  refine EL.callP rfl rfl rfl ent121 rfl (lite_c _ _) ?_
  refine EL.assign rfl rfl rfl ?_
  refine .go ?_; repeat constructor
  exact PX.ret rfl Try.results118 (.cons (.tmp rfl) .nil) (fun w hs => ⟨(), rfl, hs.ent (.nil _)⟩)
abbrev RD (g : Nat) (t : List UInt8) (a : Nat) (e : Int) : HA := HA.blk g (.cells #[Sv t, Iv (a : Nat), Iv e] 227)
def nmK (t : List UInt8) (a : Nat) : Int := if a + 2 < t.length then Lib.index (t.drop (a + 2 + 1)) [t.getD (a + 1) 0, 93] else -1
def nmN (t : List UInt8) (a : Nat) : List UInt8 := if nmK t a < 0 then [] else (t.drop (a + 2)).take (1 + (nmK t a).toNat)
def nmA (t : List UInt8) (a : Nat) : Nat := if nmK t a < 0 then a else a + 2 + 1 + (nmK t a).toNat + 2
def nmE (t : List UInt8) (a : Nat) : Int := if nmK t a < 0 then 6 else 0
theorem nmK_room (t : List UInt8) (a k : Nat) (h : nmK t a = k) : a + 2 + 1 + k + 2 ≤ t.length := by
  unfold nmK at h
  split at h
  · have := Lib.index_room (t.drop (a + 2 + 1)) [t.getD (a + 1) 0, 93] (by omega)
    rw [h] at this
    simp only [List.length_drop, List.length_cons, List.length_nil] at this
    omega
  · omega
theorem nm_at (t : List UInt8) (a : Nat) (h : a ≤ t.length) : a ≤ nmA t a ∧ nmA t a ≤ t.length := by
  unfold nmA
  split
  · omega
  · have := nmK_room t a (nmK t a).toNat (by omega)
    omega
theorem named_c (g : Nat) (t : List UInt8) (a : Nat) (ha : a + 1 < t.length) (ht : t.length ≤ 1073741824) (w0 : World) (B : Nat) (hG : GR w0 B) :
    MutAt Try.prog 119 #[Pv g 0] [RD g t a 0] (fun _ : Unit => .tuple #[Sv (nmN t a), Uv (t.getD (a + 1) 0)]) (fun _ => [RD g t (nmA t a) (nmE t a)]) w0 B := by
  intro R w h
  replace h : Sat w0 B (RD g t a 0 :: R) w := h
  have hroom := nmK_room t a
  refine calls_of_ES TB Try.func119 rfl _ Try.ntmps119 rfl h ?_
  refine .go ?_; repeat constructor
  refine EL.assign rfl rfl rfl ?_
  refine EL.assign rfl rfl rfl ?_
  refine .go ?_; repeat constructor
  refine ES.draw (X := Unit) (fun _ => [(0, Pv g 0), (4, Uv (t.getD (a + 1) 0))]) (fun _ => RD g t a 0 :: R) (RD g t a 0 :: R) mixed (.i (by repeat constructor)) ?_ (fun _ => ?_)
  · refine ED.take 0 rfl (by decide +kernel) CutX.no_panic (by decide +kernel) rfl rfl rfl (RV.move rfl) ?_
    refine ED.take 1 rfl (by decide +kernel) CutX.no_panic (by decide +kernel) rfl rfl rfl (RV.nilCheck rfl) ?_
    refine ED.take 2 rfl (by decide +kernel) CutX.no_panic (by decide +kernel) rfl rfl rfl (RV.fieldAddr rfl rfl rfl rfl rfl rfl) ?_
    refine ED.take 3 rfl (by decide +kernel) CutX.no_panic (by decide +kernel) rfl rfl rfl (RV.loadB rfl rfl rfl (by repeat constructor) rfl) ?_
    refine ED.take 4 rfl (by decide +kernel) CutX.no_panic (by decide +kernel) rfl rfl rfl (RV.move rfl) ?_
    refine ED.take 5 rfl (by decide +kernel) CutX.no_panic (by decide +kernel) rfl rfl rfl (RV.nilCheck rfl) ?_
    refine ED.take 6 rfl (by decide +kernel) CutX.no_panic (by decide +kernel) rfl rfl rfl (RV.fieldAddr rfl rfl rfl rfl rfl rfl) ?_
    refine ED.take 7 rfl (by decide +kernel) CutX.no_panic (by decide +kernel) rfl rfl rfl (RV.loadB rfl rfl rfl (by repeat constructor) rfl) ?_
    refine ED.take 8 rfl (by decide +kernel) CutX.no_panic (by decide +kernel) rfl rfl rfl (RV.add1 rfl rfl (by omega)) ?_
    refine ED.take 9 rfl (by decide +kernel) CutX.no_panic (by decide +kernel) rfl rfl rfl (RV.indexSN rfl rfl rfl rfl (by omega)) ?_
    refine ED.take 10 rfl (by decide +kernel) CutX.no_panic (by decide +kernel) rfl rfl rfl (RV.assign rfl) ?_
    refine ED.done (by decide +kernel) ?_
    exact PX.cutX () ⟨rfl, rfl, trivial⟩ (.i (by repeat constructor))
  refine .go ?_; repeat constructor
  refine EL.move rfl rfl rfl ?_
  refine EL.nilCheck rfl rfl rfl ?_
  refine EL.fieldAddr rfl rfl rfl rfl rfl rfl rfl rfl ?_
  (apply EL.loadB; exact rfl; exact rfl; exact rfl; exact rfl; exact rfl; (case hm => repeat constructor); exact rfl)
  refine EL.addN (n := 2) rfl rfl rfl rfl rfl (by omega) ?_
  refine EL.assign rfl rfl rfl ?_
  refine .go ?_; repeat constructor
  refine EL.assign rfl rfl rfl ?_
  refine .go ?_; repeat constructor
  refine EL.move rfl rfl rfl ?_
  refine EL.move rfl rfl rfl ?_
  refine EL.nilCheck rfl rfl rfl ?_
  refine EL.fieldAddr rfl rfl rfl rfl rfl rfl rfl rfl ?_
  (apply EL.loadB; exact rfl; exact rfl; exact rfl; exact rfl; exact rfl; (case hm => repeat constructor); exact rfl)
  refine EL.lenS rfl rfl rfl rfl rfl ?_
  refine EL.lss rfl rfl rfl rfl ?_
  refine .go ?_; repeat constructor
  refine ES.cutC (X := Unit) (fun _ => [(0, Pv g 0), (4, Uv (t.getD (a + 1) 0)), (5, Iv ((a + 2 : Nat) : Int)), (6, Iv (nmK t a))]) (fun _ => RD g t a 0 :: R) ?_ (fun _ => ?_)
  · refine ES.condD rfl (fun hlt => ?_) (fun hge => ?_)
    · have hlt' : a + 2 < t.length := by omega
      refine .g0 ?_; repeat constructor
      refine ES.draw (X := Unit) (fun _ => [(0, Pv g 0), (4, Uv (t.getD (a + 1) 0)), (5, Iv ((a + 2 : Nat) : Int)), (6, Iv (nmK t a))]) (fun _ => RD g t a 0 :: R) (RD g t a 0 :: R) mixed (.i (by repeat constructor)) ?_ (fun _ => ?_)
      · refine ED.take 0 rfl (by decide +kernel) CutX.no_panic (by decide +kernel) rfl rfl rfl (RV.move rfl) ?_
        refine ED.take 1 rfl (by decide +kernel) CutX.no_panic (by decide +kernel) rfl rfl rfl (RV.nilCheck rfl) ?_
        refine ED.take 2 rfl (by decide +kernel) CutX.no_panic (by decide +kernel) rfl rfl rfl (RV.fieldAddr rfl rfl rfl rfl rfl rfl) ?_
        refine ED.take 3 rfl (by decide +kernel) CutX.no_panic (by decide +kernel) rfl rfl rfl (RV.loadB rfl rfl rfl (by repeat constructor) rfl) ?_
        refine ED.take 4 rfl (by decide +kernel) CutX.no_panic (by decide +kernel) rfl rfl rfl (RV.move rfl) ?_
        refine ED.take 5 rfl (by decide +kernel) CutX.no_panic (by decide +kernel) rfl rfl rfl (RV.add1 rfl rfl (by omega)) ?_
        refine ED.take 6 rfl (by decide +kernel) CutX.no_panic (by decide +kernel) rfl rfl rfl (RV.sliceS rfl rfl rfl ⟨_, rfl⟩ rfl (by omega) (by omega)) ?_
        refine ED.take 7 rfl (by decide +kernel) CutX.no_panic (by decide +kernel) rfl rfl rfl (RV.move rfl) ?_
        refine ED.loud 8 rfl (by decide +kernel) ?_
        (refine EL.buildSliceS [Uv (t.getD (a + 1) 0), .int .u8 93] rfl rfl rfl rfl rfl rfl rfl rfl rfl rfl (by intro u hu; simp only [List.mem_cons, List.not_mem_nil, or_false] at hu; rcases hu with rfl | rfl <;> rfl) ?_; intro b37)
        refine ED.next (.i (by repeat constructor)) ?_
        refine ED.loud 9 rfl (by decide +kernel) ?_
        (refine EL.bytesS (bs := [t.getD (a + 1) 0, 93]) rfl rfl rfl rfl rfl rfl rfl rfl rfl (by repeat constructor) ?_)
        refine ED.next (.i (by repeat constructor)) ?_
        refine ED.loud 10 rfl (by decide +kernel) ?_
        (refine EL.callPw rfl rfl rfl ent122 rfl (fun w hs => sindex_c _ _ (by simp only [List.length_take, List.length_drop]; omega) w (GR.sat hG hs)) ?_)
        refine ED.next (.i (by repeat constructor)) ?_
        refine ED.take 11 rfl (by decide +kernel) CutX.no_panic (by decide +kernel) rfl rfl rfl (RV.assign rfl) ?_
        refine ED.done (by decide +kernel) ?_
        exact PX.cutX () ⟨rfl, rfl, rfl, getA rfl (congrArg Iv (by unfold nmK; rw [if_pos hlt', List.take_of_length_le (by simp)])), trivial⟩ (.i (by repeat constructor))
      refine .go ?_; repeat constructor
      exact PX.cutX () ⟨rfl, rfl, rfl, rfl, trivial⟩ (.i (by repeat constructor))
    · refine .go ?_; repeat constructor
      exact PX.cutX () ⟨rfl, rfl, rfl, getA rfl (congrArg Iv (by unfold nmK; rw [if_neg (by omega)])), trivial⟩ (.i (by repeat constructor))
  refine .go ?_; repeat constructor
  refine EL.move rfl rfl rfl ?_
  refine EL.lss rfl rfl rfl rfl ?_
  refine .go ?_; repeat constructor
  refine ES.condD rfl (fun hneg => ?_) (fun hpos => ?_)
  · have e1 : nmN t a = [] := by unfold nmN; rw [if_pos hneg]
    have e2 : nmA t a = a := by unfold nmA; rw [if_pos hneg]
    have e3 : nmE t a = 6 := by unfold nmE; rw [if_pos hneg]
    refine .go ?_; repeat constructor
    refine EL.move rfl rfl rfl ?_
    refine EL.nilCheck rfl rfl rfl ?_
    refine EL.fieldAddr rfl rfl rfl rfl rfl rfl rfl rfl ?_
    (apply EL.storeB; exact rfl; exact rfl; exact rfl; exact rfl; exact rfl; exact rfl; (case p => repeat constructor); exact (by first | decide | exact Nat.le_of_ble_eq_true rfl | simp))
    refine .go ?_; repeat constructor
    refine EL.move rfl rfl rfl ?_
    refine EL.assign rfl rfl rfl ?_
    refine EL.assign rfl rfl rfl ?_
    refine .go ?_; repeat constructor
    refine PX.ret rfl Try.results119 (.cons (.tmp rfl) (.cons (.tmp rfl) .nil)) (fun w hs => ⟨(), by rw [e1]; rfl, ?_⟩)
    rw [e2, e3]; exact hs
  · obtain ⟨k, hk⟩ : ∃ k : Nat, nmK t a = k := ⟨(nmK t a).toNat, by omega⟩
    have hr := hroom k hk
    have e1 : nmN t a = (t.drop (a + 2)).take (1 + k) := by unfold nmN; rw [hk, if_neg (by omega)]; rfl
    have e2 : nmA t a = a + 2 + 1 + k + 2 := by unfold nmA; rw [hk, if_neg (by omega)]; rfl
    have e3 : nmE t a = 0 := by unfold nmE; rw [if_neg hpos]
    rw [hk, e1, e2, e3]
    refine .go ?_; repeat constructor
    refine EL.move rfl rfl rfl ?_
    refine EL.move rfl rfl rfl ?_
    refine EL.add1 rfl rfl rfl rfl (by omega) ?_
    refine EL.move rfl rfl rfl ?_
    refine EL.addN rfl rfl rfl rfl rfl (by omega) ?_
    refine EL.addN (n := 2) rfl rfl rfl rfl rfl (by omega) ?_
    refine EL.nilCheck rfl rfl rfl ?_
    refine EL.fieldAddr rfl rfl rfl rfl rfl rfl rfl rfl ?_
    (apply EL.storeB; exact rfl; exact rfl; exact rfl; exact rfl; exact rfl; exact rfl; (case p => repeat constructor); exact (by first | decide | exact Nat.le_of_ble_eq_true rfl | simp))
    refine .go ?_; repeat constructor
    refine EL.move rfl rfl rfl ?_
    refine EL.nilCheck rfl rfl rfl ?_
    refine EL.fieldAddr rfl rfl rfl rfl rfl rfl rfl rfl ?_
    (apply EL.loadB; exact rfl; exact rfl; exact rfl; exact rfl; exact rfl; (case hm => repeat constructor); exact rfl)
    refine EL.move rfl rfl rfl ?_
    refine EL.move rfl rfl rfl ?_
    refine EL.add1 rfl rfl rfl rfl (by omega) ?_
    refine EL.move rfl rfl rfl ?_
    refine EL.addN rfl rfl rfl rfl rfl (by omega) ?_
    refine EL.sliceS rfl rfl rfl rfl rfl ⟨_, rfl⟩ ⟨_, rfl⟩ (by omega) (by omega) ?_
    refine EL.move rfl rfl rfl ?_
    refine EL.assign rfl rfl rfl ?_
    refine EL.assign rfl rfl rfl ?_
    refine .go ?_; repeat constructor
    refine PX.ret rfl Try.results119 (.cons (.tmp rfl) (.cons (.tmp rfl) .nil)) (fun w hs => ⟨(), ?_, hs⟩)
    rw [show a + 2 + 1 + k - (a + 2) = 1 + k by omega]; rfl
structure It where
  set : BS
  b : UInt8
  single : Bool
  at_ : Nat
  e : Int
def itC (t : List UInt8) (a : Nat) : Bool := !decide (((t.getD a 0).toNat : Int) = 91) || decide ((t.length : Int) ≤ ((a + 1 : Nat) : Int)) || decide (idxB [46, 61, 58] (t.getD (a + 1) 0) < 0)
def itemM (t : List UInt8) (a : Nat) : It :=
  if itC t a = true then ⟨ofS [t.getD a 0], t.getD a 0, true, a + 1, 0⟩
  else if nmE t a ≠ 0 then ⟨zeroS, 0, false, nmA t a, nmE t a⟩
  else if t.getD (a + 1) 0 = 58 then ⟨(classM (nmN t a)).1, 0, false, nmA t a, (classM (nmN t a)).2⟩
  else if (nmN t a).length ≠ 1 then ⟨zeroS, 0, false, nmA t a, 8⟩
  else ⟨ofS (nmN t a), (nmN t a).getD 0 0, decide (t.getD (a + 1) 0 = 46), nmA t a, 0⟩
theorem item_at (t : List UInt8) (a : Nat) (h : a < t.length) : a ≤ (itemM t a).at_ ∧ (itemM t a).at_ ≤ t.length ∧ ((itemM t a).e = 0 → a < (itemM t a).at_) := by
  have hn := nm_at t a (by omega)
  have hs : nmE t a = 0 → a < nmA t a := by
    unfold nmE nmA
    split
    · intro h; cases h
    · intro _; omega
  unfold itemM
  split
  · exact ⟨by simp only; omega, by simp only; omega, fun _ => by simp only; omega⟩
  · split
    · rename_i h1
      exact ⟨hn.1, hn.2, fun h2 => absurd h2 h1⟩
    · rename_i h1
      have := hs (Decidable.of_not_not h1)
      split
      · exact ⟨hn.1, hn.2, fun _ => this⟩
      · split
        · exact ⟨hn.1, hn.2, fun _ => this⟩
        · exact ⟨hn.1, hn.2, fun _ => this⟩
theorem u8_lit (x : UInt8) (n : Nat) (hn : n < 256) : ((x.toNat : Int) = (n : Nat)) ↔ x = UInt8.ofNat n := by
  constructor
  · intro h
    apply UInt8.toNat_inj.1
    have h2 : (UInt8.ofNat n).toNat = n := by simp; omega
    rw [h2]; omega
  · intro h
    subst h
    simp
    omega
theorem item_c (g : Nat) (t : List UInt8) (a : Nat) (ha : a < t.length) (ht : t.length ≤ 1073741824) (w0 : World) (B : Nat) (hG : GR w0 B) :
    MutAt Try.prog 114 #[Pv g 0] [RD g t a 0] (fun _ : Unit => .tuple #[Bs (itemM t a).set, Uv (itemM t a).b, .bool (itemM t a).single]) (fun _ => [RD g t (itemM t a).at_ (itemM t a).e]) w0 B := by
  intro R w h
  replace h : Sat w0 B (RD g t a 0 :: R) w := h
  refine calls_of_ES TB Try.func114 rfl _ Try.ntmps114 rfl h ?_
  refine .go ?_; repeat constructor
  (refine EL.alloc rfl rfl rfl ?_; intro g2)
  refine EL.assign rfl rfl rfl ?_
  refine EL.assign rfl rfl rfl ?_
  refine .go ?_; repeat constructor
  refine ES.draw (X := Unit) (fun _ => [(0, Pv g 0), (2, Pv g2 0), (43, .bool (itC t a))]) (fun _ => SB g2 zeroS :: RD g t a 0 :: R) (SB g2 zeroS :: RD g t a 0 :: R) mixed (.i (by repeat constructor)) ?_ (fun _ => ?_)
  · refine ED.take 0 rfl (by decide +kernel) CutX.no_panic (by decide +kernel) rfl rfl rfl (RV.move rfl) ?_
    refine ED.take 1 rfl (by decide +kernel) CutX.no_panic (by decide +kernel) rfl rfl rfl (RV.nilCheck rfl) ?_
    refine ED.take 2 rfl (by decide +kernel) CutX.no_panic (by decide +kernel) rfl rfl rfl (RV.fieldAddr rfl rfl rfl rfl rfl rfl) ?_
    refine ED.take 3 rfl (by decide +kernel) CutX.no_panic (by decide +kernel) rfl rfl rfl (RV.loadB rfl rfl rfl (by repeat constructor) rfl) ?_
    refine ED.take 4 rfl (by decide +kernel) CutX.no_panic (by decide +kernel) rfl rfl rfl (RV.move rfl) ?_
    refine ED.take 5 rfl (by decide +kernel) CutX.no_panic (by decide +kernel) rfl rfl rfl (RV.nilCheck rfl) ?_
    refine ED.take 6 rfl (by decide +kernel) CutX.no_panic (by decide +kernel) rfl rfl rfl (RV.fieldAddr rfl rfl rfl rfl rfl rfl) ?_
    refine ED.take 7 rfl (by decide +kernel) CutX.no_panic (by decide +kernel) rfl rfl rfl (RV.loadB rfl rfl rfl (by repeat constructor) rfl) ?_
    refine ED.take 8 rfl (by decide +kernel) CutX.no_panic (by decide +kernel) rfl rfl rfl (RV.indexSN rfl rfl rfl rfl (by omega)) ?_
    refine ED.take 9 rfl (by decide +kernel) CutX.no_panic (by decide +kernel) rfl rfl rfl (RV.neqI rfl rfl) ?_
    refine ED.take 10 rfl (by decide +kernel) CutX.no_panic (by decide +kernel) rfl rfl rfl (RV.move rfl) ?_
    first | refine ED.part (d := 17) rfl (fun hp17 => ?_) (fun hp17 => ?_) | refine ED.partN (d := 17) rfl (fun hp17 => ?_) (fun hp17 => ?_) | refine ED.partB (d := 17) rfl (fun hp17 => ?_) (fun hp17 => ?_)
    · refine ED.pass 11 rfl (by decide +kernel) CutX.no_panic (by decide +kernel) rfl rfl rfl ?_
      refine ED.pass 12 rfl (by decide +kernel) CutX.no_panic (by decide +kernel) rfl rfl rfl ?_
      refine ED.pass 13 rfl (by decide +kernel) CutX.no_panic (by decide +kernel) rfl rfl rfl ?_
      refine ED.pass 14 rfl (by decide +kernel) CutX.no_panic (by decide +kernel) rfl rfl rfl ?_
      refine ED.pass 15 rfl (by decide +kernel) CutX.no_panic (by decide +kernel) rfl rfl rfl ?_
      refine ED.pass 16 rfl (by decide +kernel) CutX.no_panic (by decide +kernel) rfl rfl rfl ?_
      refine ED.pass 17 rfl (by decide +kernel) CutX.no_panic (by decide +kernel) rfl rfl rfl ?_
      refine ED.pass 18 rfl (by decide +kernel) CutX.no_panic (by decide +kernel) rfl rfl rfl ?_
      refine ED.pass 19 rfl (by decide +kernel) CutX.no_panic (by decide +kernel) rfl rfl rfl ?_
      refine ED.pass 20 rfl (by decide +kernel) CutX.no_panic (by decide +kernel) rfl rfl rfl ?_
      refine ED.pass 21 rfl (by decide +kernel) CutX.no_panic (by decide +kernel) rfl rfl rfl ?_
      refine ED.take 22 rfl (by decide +kernel) CutX.no_panic (by decide +kernel) rfl rfl rfl (RV.pickT rfl rfl) ?_
      refine ED.take 23 rfl (by decide +kernel) CutX.no_panic (by decide +kernel) rfl rfl rfl (RV.move rfl) ?_
      refine ED.pass 24 rfl (by decide +kernel) CutX.no_panic (by decide +kernel) rfl rfl rfl ?_
      refine ED.pass 25 rfl (by decide +kernel) CutX.no_panic (by decide +kernel) rfl rfl rfl ?_
      refine ED.pass 26 rfl (by decide +kernel) CutX.no_panic (by decide +kernel) rfl rfl rfl ?_
      refine ED.pass 27 rfl (by decide +kernel) CutX.no_panic (by decide +kernel) rfl rfl rfl ?_
      refine ED.pass 28 rfl (by decide +kernel) CutX.no_panic (by decide +kernel) rfl rfl rfl ?_
      refine ED.pass 29 rfl (by decide +kernel) CutX.no_panic (by decide +kernel) rfl rfl rfl ?_
      refine ED.pass 30 rfl (by decide +kernel) CutX.no_panic (by decide +kernel) rfl rfl rfl ?_
      refine ED.pass 31 rfl (by decide +kernel) CutX.no_panic (by decide +kernel) rfl rfl rfl ?_
      refine ED.pass 32 rfl (by decide +kernel) CutX.no_panic (by decide +kernel) rfl rfl rfl ?_
      refine ED.pass 33 rfl (by decide +kernel) CutX.no_panic (by decide +kernel) rfl rfl rfl ?_
      refine ED.pass 34 rfl (by decide +kernel) CutX.no_panic (by decide +kernel) rfl rfl rfl ?_
      refine ED.pass 35 rfl (by decide +kernel) CutX.no_panic (by decide +kernel) rfl rfl rfl ?_
      refine ED.take 36 rfl (by decide +kernel) CutX.no_panic (by decide +kernel) rfl rfl rfl (RV.pickT rfl rfl) ?_
      refine ED.done (by decide +kernel) ?_
      exact PX.cutX () ⟨rfl, rfl, getA rfl (congrArg Value.bool (by unfold itC; simp_all <;> omega)), trivial⟩ (.i (by repeat constructor))
    · refine ED.take 11 rfl (by decide +kernel) CutX.no_panic (by decide +kernel) rfl rfl rfl (RV.move rfl) ?_
      refine ED.take 12 rfl (by decide +kernel) CutX.no_panic (by decide +kernel) rfl rfl rfl (RV.nilCheck rfl) ?_
      refine ED.take 13 rfl (by decide +kernel) CutX.no_panic (by decide +kernel) rfl rfl rfl (RV.fieldAddr rfl rfl rfl rfl rfl rfl) ?_
      refine ED.take 14 rfl (by decide +kernel) CutX.no_panic (by decide +kernel) rfl rfl rfl (RV.loadB rfl rfl rfl (by repeat constructor) rfl) ?_
      refine ED.take 15 rfl (by decide +kernel) CutX.no_panic (by decide +kernel) rfl rfl rfl (RV.add1 rfl rfl (by omega)) ?_
      refine ED.take 16 rfl (by decide +kernel) CutX.no_panic (by decide +kernel) rfl rfl rfl (RV.move rfl) ?_
      refine ED.take 17 rfl (by decide +kernel) CutX.no_panic (by decide +kernel) rfl rfl rfl (RV.nilCheck rfl) ?_
      refine ED.take 18 rfl (by decide +kernel) CutX.no_panic (by decide +kernel) rfl rfl rfl (RV.fieldAddr rfl rfl rfl rfl rfl rfl) ?_
      refine ED.take 19 rfl (by decide +kernel) CutX.no_panic (by decide +kernel) rfl rfl rfl (RV.loadB rfl rfl rfl (by repeat constructor) rfl) ?_
      refine ED.take 20 rfl (by decide +kernel) CutX.no_panic (by decide +kernel) rfl rfl rfl (RV.lenS rfl rfl rfl) ?_
      refine ED.take 21 rfl (by decide +kernel) CutX.no_panic (by decide +kernel) rfl rfl rfl (RV.geq rfl rfl) ?_
      refine ED.take 22 rfl (by decide +kernel) CutX.no_panic (by decide +kernel) rfl rfl rfl (RV.pickF rfl rfl) ?_
      refine ED.take 23 rfl (by decide +kernel) CutX.no_panic (by decide +kernel) rfl rfl rfl (RV.move rfl) ?_
      first | refine ED.part (d := 30) rfl (fun hp30 => ?_) (fun hp30 => ?_) | refine ED.partN (d := 30) rfl (fun hp30 => ?_) (fun hp30 => ?_) | refine ED.partB (d := 30) rfl (fun hp30 => ?_) (fun hp30 => ?_)
      · refine ED.pass 24 rfl (by decide +kernel) CutX.no_panic (by decide +kernel) rfl rfl rfl ?_
        refine ED.pass 25 rfl (by decide +kernel) CutX.no_panic (by decide +kernel) rfl rfl rfl ?_
        refine ED.pass 26 rfl (by decide +kernel) CutX.no_panic (by decide +kernel) rfl rfl rfl ?_
        refine ED.pass 27 rfl (by decide +kernel) CutX.no_panic (by decide +kernel) rfl rfl rfl ?_
        refine ED.pass 28 rfl (by decide +kernel) CutX.no_panic (by decide +kernel) rfl rfl rfl ?_
        refine ED.pass 29 rfl (by decide +kernel) CutX.no_panic (by decide +kernel) rfl rfl rfl ?_
        refine ED.pass 30 rfl (by decide +kernel) CutX.no_panic (by decide +kernel) rfl rfl rfl ?_
        refine ED.pass 31 rfl (by decide +kernel) CutX.no_panic (by decide +kernel) rfl rfl rfl ?_
        refine ED.pass 32 rfl (by decide +kernel) CutX.no_panic (by decide +kernel) rfl rfl rfl ?_
        refine ED.pass 33 rfl (by decide +kernel) CutX.no_panic (by decide +kernel) rfl rfl rfl ?_
        refine ED.pass 34 rfl (by decide +kernel) CutX.no_panic (by decide +kernel) rfl rfl rfl ?_
        refine ED.pass 35 rfl (by decide +kernel) CutX.no_panic (by decide +kernel) rfl rfl rfl ?_
        refine ED.take 36 rfl (by decide +kernel) CutX.no_panic (by decide +kernel) rfl rfl rfl (RV.pickT rfl rfl) ?_
        refine ED.done (by decide +kernel) ?_
        exact PX.cutX () ⟨rfl, rfl, getA rfl (congrArg Value.bool (by unfold itC; simp_all <;> omega)), trivial⟩ (.i (by repeat constructor))
      · refine ED.take 24 rfl (by decide +kernel) CutX.no_panic (by decide +kernel) rfl rfl rfl (RV.move rfl) ?_
        refine ED.take 25 rfl (by decide +kernel) CutX.no_panic (by decide +kernel) rfl rfl rfl (RV.nilCheck rfl) ?_
        refine ED.take 26 rfl (by decide +kernel) CutX.no_panic (by decide +kernel) rfl rfl rfl (RV.fieldAddr rfl rfl rfl rfl rfl rfl) ?_
        refine ED.take 27 rfl (by decide +kernel) CutX.no_panic (by decide +kernel) rfl rfl rfl (RV.loadB rfl rfl rfl (by repeat constructor) rfl) ?_
        refine ED.take 28 rfl (by decide +kernel) CutX.no_panic (by decide +kernel) rfl rfl rfl (RV.move rfl) ?_
        refine ED.take 29 rfl (by decide +kernel) CutX.no_panic (by decide +kernel) rfl rfl rfl (RV.nilCheck rfl) ?_
        refine ED.take 30 rfl (by decide +kernel) CutX.no_panic (by decide +kernel) rfl rfl rfl (RV.fieldAddr rfl rfl rfl rfl rfl rfl) ?_
        refine ED.take 31 rfl (by decide +kernel) CutX.no_panic (by decide +kernel) rfl rfl rfl (RV.loadB rfl rfl rfl (by repeat constructor) rfl) ?_
        refine ED.take 32 rfl (by decide +kernel) CutX.no_panic (by decide +kernel) rfl rfl rfl (RV.add1 rfl rfl (by omega)) ?_
        refine ED.take 33 rfl (by decide +kernel) CutX.no_panic (by decide +kernel) rfl rfl rfl (RV.indexSN rfl rfl rfl rfl (by omega)) ?_
        refine ED.loud 34 rfl (by decide +kernel) ?_
        refine EL.callP rfl rfl rfl ent118 rfl (index_c _ _) ?_
        refine ED.next (.i (by repeat constructor)) ?_
        refine ED.take 35 rfl (by decide +kernel) CutX.no_panic (by decide +kernel) rfl rfl rfl (RV.lss rfl rfl) ?_
        refine ED.take 36 rfl (by decide +kernel) CutX.no_panic (by decide +kernel) rfl rfl rfl (RV.pickF rfl rfl) ?_
        refine ED.done (by decide +kernel) ?_
        exact PX.cutX () ⟨rfl, rfl, getA rfl (congrArg Value.bool (by unfold itC; simp_all <;> omega)), trivial⟩ (.i (by repeat constructor))
  refine ES.cond rfl (fun hc => ?_) (fun hc => ?_)
  · have hi : itemM t a = ⟨ofS [t.getD a 0], t.getD a 0, true, a + 1, 0⟩ := by unfold itemM; rw [if_pos hc]
    rw [hi]
    refine .g0 ?_; repeat constructor
    refine ES.draw (X := Unit) (fun _ => [(0, Pv g 0), (2, Pv g2 0), (3, Uv (t.getD a 0))]) (fun _ => SB g2 zeroS :: RD g t a 0 :: R) (SB g2 zeroS :: RD g t a 0 :: R) mixed (.i (by repeat constructor)) ?_ (fun _ => ?_)
    · refine ED.take 0 rfl (by decide +kernel) CutX.no_panic (by decide +kernel) rfl rfl rfl (RV.move rfl) ?_
      refine ED.take 1 rfl (by decide +kernel) CutX.no_panic (by decide +kernel) rfl rfl rfl (RV.nilCheck rfl) ?_
      refine ED.take 2 rfl (by decide +kernel) CutX.no_panic (by decide +kernel) rfl rfl rfl (RV.fieldAddr rfl rfl rfl rfl rfl rfl) ?_
      refine ED.take 3 rfl (by decide +kernel) CutX.no_panic (by decide +kernel) rfl rfl rfl (RV.loadB rfl rfl rfl (by repeat constructor) rfl) ?_
      refine ED.take 4 rfl (by decide +kernel) CutX.no_panic (by decide +kernel) rfl rfl rfl (RV.move rfl) ?_
      refine ED.take 5 rfl (by decide +kernel) CutX.no_panic (by decide +kernel) rfl rfl rfl (RV.nilCheck rfl) ?_
      refine ED.take 6 rfl (by decide +kernel) CutX.no_panic (by decide +kernel) rfl rfl rfl (RV.fieldAddr rfl rfl rfl rfl rfl rfl) ?_
      refine ED.take 7 rfl (by decide +kernel) CutX.no_panic (by decide +kernel) rfl rfl rfl (RV.loadB rfl rfl rfl (by repeat constructor) rfl) ?_
      refine ED.take 8 rfl (by decide +kernel) CutX.no_panic (by decide +kernel) rfl rfl rfl (RV.indexSN rfl rfl rfl rfl (by omega)) ?_
      refine ED.take 9 rfl (by decide +kernel) CutX.no_panic (by decide +kernel) rfl rfl rfl (RV.assign rfl) ?_
      refine ED.done (by decide +kernel) ?_
      exact PX.cutX () ⟨rfl, rfl, rfl, trivial⟩ (.i (by repeat constructor))
    refine .go ?_; repeat constructor
    refine EL.move rfl rfl rfl ?_
    refine EL.nilCheck rfl rfl rfl ?_
    refine EL.fieldAddr rfl rfl rfl rfl rfl rfl rfl rfl ?_
    (apply EL.loadB; exact rfl; exact rfl; exact rfl; exact rfl; exact rfl; (case hm => repeat constructor); exact rfl)
    refine EL.add1 rfl rfl rfl rfl (by omega) ?_
    refine EL.nilCheck rfl rfl rfl ?_
    refine EL.fieldAddr rfl rfl rfl rfl rfl rfl rfl rfl ?_
    (apply EL.storeB; exact rfl; exact rfl; exact rfl; exact rfl; exact rfl; exact rfl; (case p => repeat constructor); exact (by first | decide | exact Nat.le_of_ble_eq_true rfl | simp))
    refine .go ?_; repeat constructor
    refine EL.move rfl rfl rfl ?_
    (refine EL.buildSlice1 rfl rfl rfl rfl rfl rfl rfl rfl rfl rfl ?_; intro b61)
    (refine EL.bytesS (bs := [t.getD a 0]) rfl rfl rfl rfl rfl rfl rfl rfl rfl (by repeat constructor) ?_)
    refine EL.callP rfl rfl rfl ent111 rfl (of_c [t.getD a 0] (by simp)) ?_
    refine EL.move rfl rfl rfl ?_
    (apply EL.storeAll; exact rfl; exact rfl; exact rfl; exact rfl; exact rfl; (case p => repeat constructor); exact rfl; (case h1 => exact (by first | rfl | exact all1 rfl | (intro u hu; simp only [List.mem_cons, List.not_mem_nil, or_false] at hu; rcases hu with rfl | rfl | rfl | rfl <;> rfl) | (intro u hu; simp at hu; rcases hu with rfl | rfl | rfl | rfl <;> rfl) | (intro u hu; simp at hu; rcases hu with rfl | rfl | rfl <;> rfl) | (intro u hu; simp at hu; rcases hu with rfl | rfl <;> rfl) | (intro u hu; simp at hu; obtain ⟨_, _, rfl⟩ := hu; rfl))))
    refine EL.assign rfl rfl rfl ?_
    refine EL.assign rfl rfl rfl ?_
    refine .go ?_; repeat constructor
    exact PX.ret rfl Try.results114 (.cons (.blkA rfl rfl rfl (by repeat constructor) rfl) (.cons (.tmp rfl) (.cons (.tmp rfl) .nil))) (fun w hs => ⟨(), rfl, hs.ent (.i (by repeat constructor))⟩)
  · have hfa : ¬ (((t.getD a 0).toNat : Int) ≠ 91) ∧ a + 1 < t.length := by
      unfold itC at hc
      simp only [Bool.or_eq_false_iff, Bool.not_eq_false', decide_eq_true_eq, decide_eq_false_iff_not] at hc
      exact ⟨fun h => h hc.1.1, by omega⟩
    have hi0 : itemM t a = if nmE t a ≠ 0 then ⟨zeroS, 0, false, nmA t a, nmE t a⟩
        else if t.getD (a + 1) 0 = 58 then ⟨(classM (nmN t a)).1, 0, false, nmA t a, (classM (nmN t a)).2⟩
        else if (nmN t a).length ≠ 1 then ⟨zeroS, 0, false, nmA t a, 8⟩
        else ⟨ofS (nmN t a), (nmN t a).getD 0 0, decide (t.getD (a + 1) 0 = 46), nmA t a, 0⟩ := by
      conv => lhs; unfold itemM
      rw [if_neg (by rw [hc]; decide)]
    have h46 : (((t.getD (a + 1) 0).toNat : Int) = 46) ↔ t.getD (a + 1) 0 = 46 := u8_lit (t.getD (a + 1) 0) 46 (by omega)
    have h58 : (((t.getD (a + 1) 0).toNat : Int) = 58) ↔ t.getD (a + 1) 0 = 58 := u8_lit (t.getD (a + 1) 0) 58 (by omega)
    refine .go ?_; repeat constructor
    refine EL.move rfl rfl rfl ?_
    refine EL.callMw1 rfl rfl rfl ent119 rfl (named_c g t a hfa.2 ht _ _ hG) (by repeat constructor) ?_
    refine EL.move rfl rfl rfl ?_
    refine EL.extract rfl rfl rfl rfl ?_
    refine EL.extract rfl rfl rfl rfl ?_
    refine EL.assign rfl rfl rfl ?_
    refine EL.assign rfl rfl rfl ?_
    refine .go ?_; repeat constructor
    refine .go ?_; repeat constructor
    refine EL.move rfl rfl rfl ?_
    refine EL.nilCheck rfl rfl rfl ?_
    refine EL.fieldAddr rfl rfl rfl rfl rfl rfl rfl rfl ?_
    (apply EL.loadB; exact rfl; exact rfl; exact rfl; exact rfl; exact rfl; (case hm => repeat constructor); exact rfl)
    refine EL.neqI rfl rfl rfl rfl ?_
    refine EL.assign rfl rfl rfl ?_
    refine .go ?_; repeat constructor
    refine ES.condN rfl (fun hne => ?_) (fun heq => ?_)
    · rw [if_pos hne] at hi0
      rw [hi0]
      refine .go ?_; repeat constructor
      (apply EL.loadAggB; exact rfl; exact rfl; exact rfl; exact rfl; exact rfl; (case hm => repeat constructor); exact rfl)
      (apply EL.storeAll; exact rfl; exact rfl; exact rfl; exact rfl; exact rfl; (case p => repeat constructor); exact rfl; (case h1 => exact (by first | rfl | exact all1 rfl | (intro u hu; simp only [List.mem_cons, List.not_mem_nil, or_false] at hu; rcases hu with rfl | rfl | rfl | rfl <;> rfl) | (intro u hu; simp at hu; rcases hu with rfl | rfl | rfl | rfl <;> rfl) | (intro u hu; simp at hu; rcases hu with rfl | rfl | rfl <;> rfl) | (intro u hu; simp at hu; rcases hu with rfl | rfl <;> rfl) | (intro u hu; simp at hu; obtain ⟨_, _, rfl⟩ := hu; rfl))))
      refine EL.assign rfl rfl rfl ?_
      refine EL.assign rfl rfl rfl ?_
      refine .go ?_; repeat constructor
      exact PX.ret rfl Try.results114 (.cons (.blkA rfl rfl rfl (by repeat constructor) rfl) (.cons (.tmp rfl) (.cons (.tmp rfl) .nil))) (fun w hs => ⟨(), rfl, hs.ent (.i (by repeat constructor))⟩)
    · rw [if_neg (by simpa using heq)] at hi0
      refine .go ?_; repeat constructor
      refine EL.move rfl rfl rfl ?_
      refine EL.eqlI rfl rfl rfl rfl ?_
      refine EL.assign rfl rfl rfl ?_
      refine .go ?_; repeat constructor
      refine ES.condD rfl (fun h1 => ?_) (fun h1 => ?_)
      · rw [if_pos (h58.1 h1)] at hi0
        rw [hi0]
        refine .go ?_; repeat constructor
        refine EL.move rfl rfl rfl ?_
        refine EL.move rfl rfl rfl ?_
        refine EL.callP rfl rfl rfl ent120 rfl (class_c (nmN t a)) ?_
        refine EL.move rfl rfl rfl ?_
        refine EL.extract rfl rfl rfl rfl ?_
        refine EL.extract rfl rfl rfl rfl ?_
        (apply EL.storeAll; exact rfl; exact rfl; exact rfl; exact rfl; exact rfl; (case p => repeat constructor); exact rfl; (case h1 => exact (by first | rfl | exact all1 rfl | (intro u hu; simp only [List.mem_cons, List.not_mem_nil, or_false] at hu; rcases hu with rfl | rfl | rfl | rfl <;> rfl) | (intro u hu; simp at hu; rcases hu with rfl | rfl | rfl | rfl <;> rfl) | (intro u hu; simp at hu; rcases hu with rfl | rfl | rfl <;> rfl) | (intro u hu; simp at hu; rcases hu with rfl | rfl <;> rfl) | (intro u hu; simp at hu; obtain ⟨_, _, rfl⟩ := hu; rfl))))
        refine EL.nilCheck rfl rfl rfl ?_
        refine EL.fieldAddr rfl rfl rfl rfl rfl rfl rfl rfl ?_
        (apply EL.storeB; exact rfl; exact rfl; exact rfl; exact rfl; exact rfl; exact rfl; (case p => repeat constructor); exact (by first | decide | exact Nat.le_of_ble_eq_true rfl | simp))
        refine .go ?_; repeat constructor
        (apply EL.loadAggB; exact rfl; exact rfl; exact rfl; exact rfl; exact rfl; (case hm => repeat constructor); exact rfl)
        (apply EL.storeAll; exact rfl; exact rfl; exact rfl; exact rfl; exact rfl; (case p => repeat constructor); exact rfl; (case h1 => exact (by first | rfl | exact all1 rfl | (intro u hu; simp only [List.mem_cons, List.not_mem_nil, or_false] at hu; rcases hu with rfl | rfl | rfl | rfl <;> rfl) | (intro u hu; simp at hu; rcases hu with rfl | rfl | rfl | rfl <;> rfl) | (intro u hu; simp at hu; rcases hu with rfl | rfl | rfl <;> rfl) | (intro u hu; simp at hu; rcases hu with rfl | rfl <;> rfl) | (intro u hu; simp at hu; obtain ⟨_, _, rfl⟩ := hu; rfl))))
        refine EL.assign rfl rfl rfl ?_
        refine EL.assign rfl rfl rfl ?_
        refine .go ?_; repeat constructor
        exact PX.ret rfl Try.results114 (.cons (.blkA rfl rfl rfl (by repeat constructor) rfl) (.cons (.tmp rfl) (.cons (.tmp rfl) .nil))) (fun w hs => ⟨(), rfl, hs.ent (.i (by repeat constructor))⟩)
      · rw [if_neg (fun h => h1 (h58.2 h))] at hi0
        refine .go ?_; repeat constructor
        refine EL.move rfl rfl rfl ?_
        refine EL.lenS rfl rfl rfl rfl rfl ?_
        refine EL.neqI rfl rfl rfl rfl ?_
        refine EL.assign rfl rfl rfl ?_
        refine .go ?_; repeat constructor
        refine ES.condN rfl (fun h2 => ?_) (fun h2 => ?_)
        · rw [if_pos (by omega)] at hi0
          rw [hi0]
          refine .go ?_; repeat constructor
          refine EL.move rfl rfl rfl ?_
          refine EL.nilCheck rfl rfl rfl ?_
          refine EL.fieldAddr rfl rfl rfl rfl rfl rfl rfl rfl ?_
          (apply EL.storeB; exact rfl; exact rfl; exact rfl; exact rfl; exact rfl; exact rfl; (case p => repeat constructor); exact (by first | decide | exact Nat.le_of_ble_eq_true rfl | simp))
          refine .go ?_; repeat constructor
          (apply EL.loadAggB; exact rfl; exact rfl; exact rfl; exact rfl; exact rfl; (case hm => repeat constructor); exact rfl)
          (apply EL.storeAll; exact rfl; exact rfl; exact rfl; exact rfl; exact rfl; (case p => repeat constructor); exact rfl; (case h1 => exact (by first | rfl | exact all1 rfl | (intro u hu; simp only [List.mem_cons, List.not_mem_nil, or_false] at hu; rcases hu with rfl | rfl | rfl | rfl <;> rfl) | (intro u hu; simp at hu; rcases hu with rfl | rfl | rfl | rfl <;> rfl) | (intro u hu; simp at hu; rcases hu with rfl | rfl | rfl <;> rfl) | (intro u hu; simp at hu; rcases hu with rfl | rfl <;> rfl) | (intro u hu; simp at hu; obtain ⟨_, _, rfl⟩ := hu; rfl))))
          refine EL.assign rfl rfl rfl ?_
          refine EL.assign rfl rfl rfl ?_
          refine .go ?_; repeat constructor
          exact PX.ret rfl Try.results114 (.cons (.blkA rfl rfl rfl (by repeat constructor) rfl) (.cons (.tmp rfl) (.cons (.tmp rfl) .nil))) (fun w hs => ⟨(), rfl, hs.ent (.i (by repeat constructor))⟩)
        · rw [if_neg (by omega)] at hi0
          have hl : 0 < (nmN t a).length := by omega
          have hd46 : decide (((t.getD (a + 1) 0).toNat : Int) = 46) = decide (t.getD (a + 1) 0 = 46) := decide_eq_decide.2 h46
          rw [hi0]
          refine .g0 ?_; repeat constructor
          refine ES.draw (X := Unit) (fun _ => [(2, Pv g2 0), (3, Uv ((nmN t a).getD 0 0)), (4, .bool (decide (t.getD (a + 1) 0 = 46)))]) (fun _ => SB g2 (ofS (nmN t a)) :: RD g t (nmA t a) (nmE t a) :: R) (RD g t (nmA t a) (nmE t a) :: R) mixed (.i (by repeat constructor)) ?_ (fun _ => ?_)
          · refine ED.take 0 rfl (by decide +kernel) CutX.no_panic (by decide +kernel) rfl rfl rfl (RV.move rfl) ?_
            refine ED.take 2 rfl (by decide +kernel) CutX.no_panic (by decide +kernel) rfl rfl rfl (RV.move rfl) ?_
            refine ED.take 3 rfl (by decide +kernel) CutX.no_panic (by decide +kernel) rfl rfl rfl (RV.indexSN (i := 0) rfl rfl rfl rfl hl) ?_
            refine ED.take 4 rfl (by decide +kernel) CutX.no_panic (by decide +kernel) rfl rfl rfl (RV.move rfl) ?_
            refine ED.take 5 rfl (by decide +kernel) CutX.no_panic (by decide +kernel) rfl rfl rfl (RV.eqlI rfl rfl) ?_
            refine ED.loud 1 rfl (by decide +kernel) ?_
            refine EL.callP rfl rfl rfl ent111 rfl (of_c (nmN t a) (by omega)) ?_
            refine ED.next (.i (by repeat constructor)) ?_
            refine ED.loud 6 rfl (by decide +kernel) ?_
            (apply EL.storeAll; exact rfl; exact rfl; exact rfl; exact rfl; exact rfl; (case p => repeat constructor); exact rfl; (case h1 => exact (by first | rfl | exact all1 rfl | (intro u hu; simp only [List.mem_cons, List.not_mem_nil, or_false] at hu; rcases hu with rfl | rfl | rfl | rfl <;> rfl) | (intro u hu; simp at hu; rcases hu with rfl | rfl | rfl | rfl <;> rfl) | (intro u hu; simp at hu; rcases hu with rfl | rfl | rfl <;> rfl) | (intro u hu; simp at hu; rcases hu with rfl | rfl <;> rfl) | (intro u hu; simp at hu; obtain ⟨_, _, rfl⟩ := hu; rfl))))
            refine ED.next (.i (by repeat constructor)) ?_
            refine ED.take 7 rfl (by decide +kernel) CutX.no_panic (by decide +kernel) rfl rfl rfl (RV.assign rfl) ?_
            refine ED.take 8 rfl (by decide +kernel) CutX.no_panic (by decide +kernel) rfl rfl rfl (RV.assign rfl) ?_
            refine ED.done (by decide +kernel) ?_
            exact PX.cutX () ⟨rfl, rfl, getA rfl (congrArg Value.bool hd46), trivial⟩ (.i (by repeat constructor))
          refine .go ?_; repeat constructor
          refine PX.ret rfl Try.results114 (.cons (.blkA rfl rfl rfl (by repeat constructor) rfl) (.cons (.tmp rfl) (.cons (.tmp rfl) .nil))) (fun w hs => ⟨(), rfl, ?_⟩)
          have he0 : nmE t a = 0 := by simpa using heq
          rw [he0] at hs
          exact hs.ent (.i (by repeat constructor))
end Go.Proofs.Ytblpgpgbnlhjlaa
