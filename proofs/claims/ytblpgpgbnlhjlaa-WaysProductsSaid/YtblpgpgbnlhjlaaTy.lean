/- PRINTED BY A PROGRAM OF THIS REPO (tytab.py). The types of the seat, as a table; each function can be entered. -/
import Derived.Test.YtblpgpgbnlhjlaaSld2
import Derived.Test.YtblpgpgbnlhjlaaRows
namespace Go.Proofs.Ytblpgpgbnlhjlaa
open Go Go.RowKit Sl
set_option maxRecDepth 100000
def ty2 : TI := { u := .int .i64, size := 1, bytes := 8, zero := .int .i64 (0) }
theorem tyOk2 : TyOk Try.prog 2 ty2 := ⟨Try.underlying2, by kernel_rfl⟩
def ty3 : TI := { u := .int .i64, size := 1, bytes := 8, zero := .int .i64 (0) }
theorem tyOk3 : TyOk Try.prog 3 ty3 := ⟨Try.underlying3, by kernel_rfl⟩
def ty4 : TI := { u := .bool, size := 1, bytes := 1, zero := .bool false }
theorem tyOk4 : TyOk Try.prog 4 ty4 := ⟨Try.underlying4, by kernel_rfl⟩
def ty5 : TI := { u := .int .u8, size := 1, bytes := 1, zero := .int .u8 (0) }
theorem tyOk5 : TyOk Try.prog 5 ty5 := ⟨Try.underlying5, by kernel_rfl⟩
def ty9 : TI := { u := .string, size := 1, bytes := 16, zero := .string ⟨#[]⟩ }
theorem tyOk9 : TyOk Try.prog 9 ty9 := ⟨Try.underlying9, by kernel_rfl⟩
def ty12 : TI := { u := .int .u64, size := 1, bytes := 8, zero := .int .u64 (0) }
theorem tyOk12 : TyOk Try.prog 12 ty12 := ⟨Try.underlying12, by kernel_rfl⟩
def ty21 : TI := { u := .int .i32, size := 1, bytes := 4, zero := .int .i32 (0) }
theorem tyOk21 : TyOk Try.prog 21 ty21 := ⟨Try.underlying21, by kernel_rfl⟩
def ty23 : TI := { u := .int .i64, size := 1, bytes := 8, zero := .int .i64 (0) }
theorem tyOk23 : TyOk Try.prog 23 ty23 := ⟨Try.underlying23, by kernel_rfl⟩
def ty28 : TI := { u := .slice 33, size := 1, bytes := 24, zero := .slice none 0 0 }
theorem tyOk28 : TyOk Try.prog 28 ty28 := ⟨Try.underlying28, by kernel_rfl⟩
def ty32 : TI := { u := .struct #[{ name := "From", type := 3, offset := 0, embedded := false, tag := "", pkgPath := "", byteOffset := 0 }, { name := "To", type := 3, offset := 1, embedded := false, tag := "", pkgPath := "", byteOffset := 8 }], size := 2, bytes := 16, zero := .agg #[.int .i64 (0), .int .i64 (0)] }
theorem tyOk32 : TyOk Try.prog 32 ty32 := ⟨Try.underlying32, by kernel_rfl⟩
def ty33 : TI := { u := .struct #[{ name := "From", type := 3, offset := 0, embedded := false, tag := "", pkgPath := "", byteOffset := 0 }, { name := "To", type := 3, offset := 1, embedded := false, tag := "", pkgPath := "", byteOffset := 8 }], size := 2, bytes := 16, zero := .agg #[.int .i64 (0), .int .i64 (0)] }
theorem tyOk33 : TyOk Try.prog 33 ty33 := ⟨Try.underlying33, by kernel_rfl⟩
def ty39 : TI := { u := .pointer 112, size := 1, bytes := 8, zero := .pointer none }
theorem tyOk39 : TyOk Try.prog 39 ty39 := ⟨Try.underlying39, by kernel_rfl⟩
def ty44 : TI := { u := .slice 5, size := 1, bytes := 24, zero := .slice none 0 0 }
theorem tyOk44 : TyOk Try.prog 44 ty44 := ⟨Try.underlying44, by kernel_rfl⟩
def ty45 : TI := { u := .slice 28, size := 1, bytes := 24, zero := .slice none 0 0 }
theorem tyOk45 : TyOk Try.prog 45 ty45 := ⟨Try.underlying45, by kernel_rfl⟩
def ty51 : TI := { u := .pointer 119, size := 1, bytes := 8, zero := .pointer none }
theorem tyOk51 : TyOk Try.prog 51 ty51 := ⟨Try.underlying51, by kernel_rfl⟩
def ty54 : TI := { u := .struct #[{ name := "Kind", type := 3, offset := 0, embedded := false, tag := "", pkgPath := "", byteOffset := 0 }, { name := "Line", type := 3, offset := 1, embedded := false, tag := "", pkgPath := "", byteOffset := 8 }, { name := "Re", type := 9, offset := 2, embedded := false, tag := "", pkgPath := "", byteOffset := 16 }], size := 3, bytes := 32, zero := .agg #[.int .i64 (0), .int .i64 (0), .string ⟨#[]⟩] }
theorem tyOk54 : TyOk Try.prog 54 ty54 := ⟨Try.underlying54, by kernel_rfl⟩
def ty55 : TI := { u := .struct #[{ name := "Kind", type := 3, offset := 0, embedded := false, tag := "", pkgPath := "", byteOffset := 0 }, { name := "Line", type := 3, offset := 1, embedded := false, tag := "", pkgPath := "", byteOffset := 8 }, { name := "Re", type := 9, offset := 2, embedded := false, tag := "", pkgPath := "", byteOffset := 16 }], size := 3, bytes := 32, zero := .agg #[.int .i64 (0), .int .i64 (0), .string ⟨#[]⟩] }
theorem tyOk55 : TyOk Try.prog 55 ty55 := ⟨Try.underlying55, by kernel_rfl⟩
def ty57 : TI := { u := .struct #[{ name := "A", type := 55, offset := 0, embedded := false, tag := "", pkgPath := "", byteOffset := 0 }, { name := "B", type := 55, offset := 3, embedded := false, tag := "", pkgPath := "", byteOffset := 32 }, { name := "Not", type := 4, offset := 6, embedded := false, tag := "", pkgPath := "", byteOffset := 64 }], size := 7, bytes := 72, zero := .agg #[.int .i64 (0), .int .i64 (0), .string ⟨#[]⟩, .int .i64 (0), .int .i64 (0), .string ⟨#[]⟩, .bool false] }
theorem tyOk57 : TyOk Try.prog 57 ty57 := ⟨Try.underlying57, by kernel_rfl⟩
def ty58 : TI := { u := .struct #[{ name := "A", type := 55, offset := 0, embedded := false, tag := "", pkgPath := "", byteOffset := 0 }, { name := "B", type := 55, offset := 3, embedded := false, tag := "", pkgPath := "", byteOffset := 32 }, { name := "Not", type := 4, offset := 6, embedded := false, tag := "", pkgPath := "", byteOffset := 64 }], size := 7, bytes := 72, zero := .agg #[.int .i64 (0), .int .i64 (0), .string ⟨#[]⟩, .int .i64 (0), .int .i64 (0), .string ⟨#[]⟩, .bool false] }
theorem tyOk58 : TyOk Try.prog 58 ty58 := ⟨Try.underlying58, by kernel_rfl⟩
def ty59 : TI := { u := .slice 58, size := 1, bytes := 24, zero := .slice none 0 0 }
theorem tyOk59 : TyOk Try.prog 59 ty59 := ⟨Try.underlying59, by kernel_rfl⟩
def ty60 : TI := { u := .array 5 4, size := 5, bytes := 5, zero := .agg #[.bool false, .bool false, .bool false, .bool false, .bool false] }
theorem tyOk60 : TyOk Try.prog 60 ty60 := ⟨Try.underlying60, by kernel_rfl⟩
def ty66 : TI := { u := .struct #[{ name := "E", type := 23, offset := 0, embedded := false, tag := "", pkgPath := "", byteOffset := 0 }, { name := "At", type := 3, offset := 1, embedded := false, tag := "", pkgPath := "", byteOffset := 8 }], size := 2, bytes := 16, zero := .agg #[.int .i64 (0), .int .i64 (0)] }
theorem tyOk66 : TyOk Try.prog 66 ty66 := ⟨Try.underlying66, by kernel_rfl⟩
def ty67 : TI := { u := .struct #[{ name := "E", type := 23, offset := 0, embedded := false, tag := "", pkgPath := "", byteOffset := 0 }, { name := "At", type := 3, offset := 1, embedded := false, tag := "", pkgPath := "", byteOffset := 8 }], size := 2, bytes := 16, zero := .agg #[.int .i64 (0), .int .i64 (0)] }
theorem tyOk67 : TyOk Try.prog 67 ty67 := ⟨Try.underlying67, by kernel_rfl⟩
def ty72 : TI := { u := .struct #[{ name := "Group", type := 3, offset := 0, embedded := false, tag := "", pkgPath := "", byteOffset := 0 }, { name := "Text", type := 9, offset := 1, embedded := false, tag := "", pkgPath := "", byteOffset := 8 }], size := 2, bytes := 24, zero := .agg #[.int .i64 (0), .string ⟨#[]⟩] }
theorem tyOk72 : TyOk Try.prog 72 ty72 := ⟨Try.underlying72, by kernel_rfl⟩
def ty73 : TI := { u := .struct #[{ name := "Group", type := 3, offset := 0, embedded := false, tag := "", pkgPath := "", byteOffset := 0 }, { name := "Text", type := 9, offset := 1, embedded := false, tag := "", pkgPath := "", byteOffset := 8 }], size := 2, bytes := 24, zero := .agg #[.int .i64 (0), .string ⟨#[]⟩] }
theorem tyOk73 : TyOk Try.prog 73 ty73 := ⟨Try.underlying73, by kernel_rfl⟩
def ty74 : TI := { u := .slice 73, size := 1, bytes := 24, zero := .slice none 0 0 }
theorem tyOk74 : TyOk Try.prog 74 ty74 := ⟨Try.underlying74, by kernel_rfl⟩
def ty77 : TI := { u := .int .u64, size := 1, bytes := 8, zero := .int .u64 (0) }
theorem tyOk77 : TyOk Try.prog 77 ty77 := ⟨Try.underlying77, by kernel_rfl⟩
def ty78 : TI := { u := .array 4 77, size := 4, bytes := 32, zero := .agg #[.int .u64 (0), .int .u64 (0), .int .u64 (0), .int .u64 (0)] }
theorem tyOk78 : TyOk Try.prog 78 ty78 := ⟨Try.underlying78, by kernel_rfl⟩
def ty79 : TI := { u := .array 4 77, size := 4, bytes := 32, zero := .agg #[.int .u64 (0), .int .u64 (0), .int .u64 (0), .int .u64 (0)] }
theorem tyOk79 : TyOk Try.prog 79 ty79 := ⟨Try.underlying79, by kernel_rfl⟩
def ty80 : TI := { u := .slice 82, size := 1, bytes := 24, zero := .slice none 0 0 }
theorem tyOk80 : TyOk Try.prog 80 ty80 := ⟨Try.underlying80, by kernel_rfl⟩
def ty81 : TI := { u := .struct #[{ name := "Kind", type := 3, offset := 0, embedded := false, tag := "", pkgPath := "", byteOffset := 0 }, { name := "Set", type := 79, offset := 1, embedded := false, tag := "", pkgPath := "", byteOffset := 8 }, { name := "Lo", type := 3, offset := 5, embedded := false, tag := "", pkgPath := "", byteOffset := 40 }, { name := "Hi", type := 3, offset := 6, embedded := false, tag := "", pkgPath := "", byteOffset := 48 }, { name := "Group", type := 3, offset := 7, embedded := false, tag := "", pkgPath := "", byteOffset := 56 }, { name := "Kids", type := 80, offset := 8, embedded := false, tag := "", pkgPath := "", byteOffset := 64 }], size := 9, bytes := 88, zero := .agg #[.int .i64 (0), .int .u64 (0), .int .u64 (0), .int .u64 (0), .int .u64 (0), .int .i64 (0), .int .i64 (0), .int .i64 (0), .slice none 0 0] }
theorem tyOk81 : TyOk Try.prog 81 ty81 := ⟨Try.underlying81, by kernel_rfl⟩
def ty82 : TI := { u := .struct #[{ name := "Kind", type := 3, offset := 0, embedded := false, tag := "", pkgPath := "", byteOffset := 0 }, { name := "Set", type := 79, offset := 1, embedded := false, tag := "", pkgPath := "", byteOffset := 8 }, { name := "Lo", type := 3, offset := 5, embedded := false, tag := "", pkgPath := "", byteOffset := 40 }, { name := "Hi", type := 3, offset := 6, embedded := false, tag := "", pkgPath := "", byteOffset := 48 }, { name := "Group", type := 3, offset := 7, embedded := false, tag := "", pkgPath := "", byteOffset := 56 }, { name := "Kids", type := 80, offset := 8, embedded := false, tag := "", pkgPath := "", byteOffset := 64 }], size := 9, bytes := 88, zero := .agg #[.int .i64 (0), .int .u64 (0), .int .u64 (0), .int .u64 (0), .int .u64 (0), .int .i64 (0), .int .i64 (0), .int .i64 (0), .slice none 0 0] }
theorem tyOk82 : TyOk Try.prog 82 ty82 := ⟨Try.underlying82, by kernel_rfl⟩
def ty85 : TI := { u := .pointer 88, size := 1, bytes := 8, zero := .pointer none }
theorem tyOk85 : TyOk Try.prog 85 ty85 := ⟨Try.underlying85, by kernel_rfl⟩
def ty86 : TI := { u := .map 153 89, size := 1, bytes := 8, zero := .map none }
theorem tyOk86 : TyOk Try.prog 86 ty86 := ⟨Try.underlying86, by kernel_rfl⟩
def ty87 : TI := { u := .struct #[{ name := "subject", type := 9, offset := 0, embedded := false, tag := "", pkgPath := "runnel/ways", byteOffset := 0 }, { name := "rows", type := 86, offset := 1, embedded := false, tag := "", pkgPath := "runnel/ways", byteOffset := 16 }], size := 2, bytes := 24, zero := .agg #[.string ⟨#[]⟩, .map none] }
theorem tyOk87 : TyOk Try.prog 87 ty87 := ⟨Try.underlying87, by kernel_rfl⟩
def ty88 : TI := { u := .struct #[{ name := "subject", type := 9, offset := 0, embedded := false, tag := "", pkgPath := "runnel/ways", byteOffset := 0 }, { name := "rows", type := 86, offset := 1, embedded := false, tag := "", pkgPath := "runnel/ways", byteOffset := 16 }], size := 2, bytes := 24, zero := .agg #[.string ⟨#[]⟩, .map none] }
theorem tyOk88 : TyOk Try.prog 88 ty88 := ⟨Try.underlying88, by kernel_rfl⟩
def ty89 : TI := { u := .slice 3, size := 1, bytes := 24, zero := .slice none 0 0 }
theorem tyOk89 : TyOk Try.prog 89 ty89 := ⟨Try.underlying89, by kernel_rfl⟩
def ty91 : TI := { u := .pointer 82, size := 1, bytes := 8, zero := .pointer none }
theorem tyOk91 : TyOk Try.prog 91 ty91 := ⟨Try.underlying91, by kernel_rfl⟩
def ty92 : TI := { u := .struct #[{ name := "Positions", type := 3, offset := 0, embedded := false, tag := "", pkgPath := "", byteOffset := 0 }, { name := "Groups", type := 3, offset := 1, embedded := false, tag := "", pkgPath := "", byteOffset := 8 }, { name := "Least", type := 3, offset := 2, embedded := false, tag := "", pkgPath := "", byteOffset := 16 }, { name := "Most", type := 3, offset := 3, embedded := false, tag := "", pkgPath := "", byteOffset := 24 }, { name := "Back", type := 4, offset := 4, embedded := false, tag := "", pkgPath := "", byteOffset := 32 }, { name := "Bol", type := 4, offset := 5, embedded := false, tag := "", pkgPath := "", byteOffset := 33 }, { name := "Eol", type := 4, offset := 6, embedded := false, tag := "", pkgPath := "", byteOffset := 34 }], size := 7, bytes := 40, zero := .agg #[.int .i64 (0), .int .i64 (0), .int .i64 (0), .int .i64 (0), .bool false, .bool false, .bool false] }
theorem tyOk92 : TyOk Try.prog 92 ty92 := ⟨Try.underlying92, by kernel_rfl⟩
def ty93 : TI := { u := .struct #[{ name := "Positions", type := 3, offset := 0, embedded := false, tag := "", pkgPath := "", byteOffset := 0 }, { name := "Groups", type := 3, offset := 1, embedded := false, tag := "", pkgPath := "", byteOffset := 8 }, { name := "Least", type := 3, offset := 2, embedded := false, tag := "", pkgPath := "", byteOffset := 16 }, { name := "Most", type := 3, offset := 3, embedded := false, tag := "", pkgPath := "", byteOffset := 24 }, { name := "Back", type := 4, offset := 4, embedded := false, tag := "", pkgPath := "", byteOffset := 32 }, { name := "Bol", type := 4, offset := 5, embedded := false, tag := "", pkgPath := "", byteOffset := 33 }, { name := "Eol", type := 4, offset := 6, embedded := false, tag := "", pkgPath := "", byteOffset := 34 }], size := 7, bytes := 40, zero := .agg #[.int .i64 (0), .int .i64 (0), .int .i64 (0), .int .i64 (0), .bool false, .bool false, .bool false] }
theorem tyOk93 : TyOk Try.prog 93 ty93 := ⟨Try.underlying93, by kernel_rfl⟩
def ty96 : TI := { u := .pointer 100, size := 1, bytes := 8, zero := .pointer none }
theorem tyOk96 : TyOk Try.prog 96 ty96 := ⟨Try.underlying96, by kernel_rfl⟩
def ty97 : TI := { u := .struct #[{ name := "Subject", type := 9, offset := 0, embedded := false, tag := "", pkgPath := "", byteOffset := 0 }, { name := "Steps", type := 3, offset := 1, embedded := false, tag := "", pkgPath := "", byteOffset := 16 }], size := 2, bytes := 24, zero := .agg #[.string ⟨#[]⟩, .int .i64 (0)] }
theorem tyOk97 : TyOk Try.prog 97 ty97 := ⟨Try.underlying97, by kernel_rfl⟩
def ty98 : TI := { u := .struct #[{ name := "Subject", type := 9, offset := 0, embedded := false, tag := "", pkgPath := "", byteOffset := 0 }, { name := "Steps", type := 3, offset := 1, embedded := false, tag := "", pkgPath := "", byteOffset := 16 }], size := 2, bytes := 24, zero := .agg #[.string ⟨#[]⟩, .int .i64 (0)] }
theorem tyOk98 : TyOk Try.prog 98 ty98 := ⟨Try.underlying98, by kernel_rfl⟩
def ty99 : TI := { u := .struct #[{ name := "Walk", type := 98, offset := 0, embedded := true, tag := "", pkgPath := "", byteOffset := 0 }, { name := "spans", type := 28, offset := 2, embedded := false, tag := "", pkgPath := "runnel/setmatch", byteOffset := 24 }], size := 3, bytes := 48, zero := .agg #[.string ⟨#[]⟩, .int .i64 (0), .slice none 0 0] }
theorem tyOk99 : TyOk Try.prog 99 ty99 := ⟨Try.underlying99, by kernel_rfl⟩
def ty100 : TI := { u := .struct #[{ name := "Walk", type := 98, offset := 0, embedded := true, tag := "", pkgPath := "", byteOffset := 0 }, { name := "spans", type := 28, offset := 2, embedded := false, tag := "", pkgPath := "runnel/setmatch", byteOffset := 24 }], size := 3, bytes := 48, zero := .agg #[.string ⟨#[]⟩, .int .i64 (0), .slice none 0 0] }
theorem tyOk100 : TyOk Try.prog 100 ty100 := ⟨Try.underlying100, by kernel_rfl⟩
def ty103 : TI := { u := .pointer 163, size := 1, bytes := 8, zero := .pointer none }
theorem tyOk103 : TyOk Try.prog 103 ty103 := ⟨Try.underlying103, by kernel_rfl⟩
def ty106 : TI := { u := .pointer 109, size := 1, bytes := 8, zero := .pointer none }
theorem tyOk106 : TyOk Try.prog 106 ty106 := ⟨Try.underlying106, by kernel_rfl⟩
def ty107 : TI := { u := .map 220 89, size := 1, bytes := 8, zero := .map none }
theorem tyOk107 : TyOk Try.prog 107 ty107 := ⟨Try.underlying107, by kernel_rfl⟩
def ty108 : TI := { u := .struct #[{ name := "walk", type := 98, offset := 0, embedded := false, tag := "", pkgPath := "runnel/backmatch", byteOffset := 0 }, { name := "spans", type := 28, offset := 2, embedded := false, tag := "", pkgPath := "runnel/backmatch", byteOffset := 24 }, { name := "found", type := 107, offset := 3, embedded := false, tag := "", pkgPath := "runnel/backmatch", byteOffset := 48 }], size := 4, bytes := 56, zero := .agg #[.string ⟨#[]⟩, .int .i64 (0), .slice none 0 0, .map none] }
theorem tyOk108 : TyOk Try.prog 108 ty108 := ⟨Try.underlying108, by kernel_rfl⟩
def ty109 : TI := { u := .struct #[{ name := "walk", type := 98, offset := 0, embedded := false, tag := "", pkgPath := "runnel/backmatch", byteOffset := 0 }, { name := "spans", type := 28, offset := 2, embedded := false, tag := "", pkgPath := "runnel/backmatch", byteOffset := 24 }, { name := "found", type := 107, offset := 3, embedded := false, tag := "", pkgPath := "runnel/backmatch", byteOffset := 48 }], size := 4, bytes := 56, zero := .agg #[.string ⟨#[]⟩, .int .i64 (0), .slice none 0 0, .map none] }
theorem tyOk109 : TyOk Try.prog 109 ty109 := ⟨Try.underlying109, by kernel_rfl⟩
def ty111 : TI := { u := .struct #[{ name := "text", type := 9, offset := 0, embedded := false, tag := "", pkgPath := "runnel/matcher", byteOffset := 0 }, { name := "known", type := 93, offset := 1, embedded := false, tag := "", pkgPath := "runnel/matcher", byteOffset := 16 }, { name := "steps", type := 3, offset := 8, embedded := false, tag := "", pkgPath := "runnel/matcher", byteOffset := 56 }, { name := "match", type := 40, offset := 9, embedded := false, tag := "", pkgPath := "runnel/matcher", byteOffset := 64 }], size := 10, bytes := 72, zero := .agg #[.string ⟨#[]⟩, .int .i64 (0), .int .i64 (0), .int .i64 (0), .int .i64 (0), .bool false, .bool false, .bool false, .int .i64 (0), .nilFunc] }
theorem tyOk111 : TyOk Try.prog 111 ty111 := ⟨Try.underlying111, by kernel_rfl⟩
def ty112 : TI := { u := .struct #[{ name := "text", type := 9, offset := 0, embedded := false, tag := "", pkgPath := "runnel/matcher", byteOffset := 0 }, { name := "known", type := 93, offset := 1, embedded := false, tag := "", pkgPath := "runnel/matcher", byteOffset := 16 }, { name := "steps", type := 3, offset := 8, embedded := false, tag := "", pkgPath := "runnel/matcher", byteOffset := 56 }, { name := "match", type := 40, offset := 9, embedded := false, tag := "", pkgPath := "runnel/matcher", byteOffset := 64 }], size := 10, bytes := 72, zero := .agg #[.string ⟨#[]⟩, .int .i64 (0), .int .i64 (0), .int .i64 (0), .int .i64 (0), .bool false, .bool false, .bool false, .int .i64 (0), .nilFunc] }
theorem tyOk112 : TyOk Try.prog 112 ty112 := ⟨Try.underlying112, by kernel_rfl⟩
def ty117 : TI := { u := .slice 123, size := 1, bytes := 24, zero := .slice none 0 0 }
theorem tyOk117 : TyOk Try.prog 117 ty117 := ⟨Try.underlying117, by kernel_rfl⟩
def ty118 : TI := { u := .struct #[{ name := "rows", type := 117, offset := 0, embedded := false, tag := "", pkgPath := "runnel/pick", byteOffset := 0 }, { name := "last", type := 39, offset := 1, embedded := false, tag := "", pkgPath := "runnel/pick", byteOffset := 24 }], size := 2, bytes := 32, zero := .agg #[.slice none 0 0, .pointer none] }
theorem tyOk118 : TyOk Try.prog 118 ty118 := ⟨Try.underlying118, by kernel_rfl⟩
def ty119 : TI := { u := .struct #[{ name := "rows", type := 117, offset := 0, embedded := false, tag := "", pkgPath := "runnel/pick", byteOffset := 0 }, { name := "last", type := 39, offset := 1, embedded := false, tag := "", pkgPath := "runnel/pick", byteOffset := 24 }], size := 2, bytes := 32, zero := .agg #[.slice none 0 0, .pointer none] }
theorem tyOk119 : TyOk Try.prog 119 ty119 := ⟨Try.underlying119, by kernel_rfl⟩
def ty122 : TI := { u := .struct #[{ name := "row", type := 58, offset := 0, embedded := false, tag := "", pkgPath := "runnel/pick", byteOffset := 0 }, { name := "a", type := 39, offset := 7, embedded := false, tag := "", pkgPath := "runnel/pick", byteOffset := 72 }, { name := "b", type := 39, offset := 8, embedded := false, tag := "", pkgPath := "runnel/pick", byteOffset := 80 }, { name := "on", type := 4, offset := 9, embedded := false, tag := "", pkgPath := "runnel/pick", byteOffset := 88 }], size := 10, bytes := 96, zero := .agg #[.int .i64 (0), .int .i64 (0), .string ⟨#[]⟩, .int .i64 (0), .int .i64 (0), .string ⟨#[]⟩, .bool false, .pointer none, .pointer none, .bool false] }
theorem tyOk122 : TyOk Try.prog 122 ty122 := ⟨Try.underlying122, by kernel_rfl⟩
def ty123 : TI := { u := .struct #[{ name := "row", type := 58, offset := 0, embedded := false, tag := "", pkgPath := "runnel/pick", byteOffset := 0 }, { name := "a", type := 39, offset := 7, embedded := false, tag := "", pkgPath := "runnel/pick", byteOffset := 72 }, { name := "b", type := 39, offset := 8, embedded := false, tag := "", pkgPath := "runnel/pick", byteOffset := 80 }, { name := "on", type := 4, offset := 9, embedded := false, tag := "", pkgPath := "runnel/pick", byteOffset := 88 }], size := 10, bytes := 96, zero := .agg #[.int .i64 (0), .int .i64 (0), .string ⟨#[]⟩, .int .i64 (0), .int .i64 (0), .string ⟨#[]⟩, .bool false, .pointer none, .pointer none, .bool false] }
theorem tyOk123 : TyOk Try.prog 123 ty123 := ⟨Try.underlying123, by kernel_rfl⟩
def ty124 : TI := { u := .pointer 123, size := 1, bytes := 8, zero := .pointer none }
theorem tyOk124 : TyOk Try.prog 124 ty124 := ⟨Try.underlying124, by kernel_rfl⟩
def ty125 : TI := { u := .struct #[{ name := "line", type := 3, offset := 0, embedded := false, tag := "", pkgPath := "runnel/pick", byteOffset := 0 }, { name := "last", type := 4, offset := 1, embedded := false, tag := "", pkgPath := "runnel/pick", byteOffset := 8 }, { name := "space", type := 9, offset := 2, embedded := false, tag := "", pkgPath := "runnel/pick", byteOffset := 16 }], size := 3, bytes := 32, zero := .agg #[.int .i64 (0), .bool false, .string ⟨#[]⟩] }
theorem tyOk125 : TyOk Try.prog 125 ty125 := ⟨Try.underlying125, by kernel_rfl⟩
def ty126 : TI := { u := .struct #[{ name := "line", type := 3, offset := 0, embedded := false, tag := "", pkgPath := "runnel/pick", byteOffset := 0 }, { name := "last", type := 4, offset := 1, embedded := false, tag := "", pkgPath := "runnel/pick", byteOffset := 8 }, { name := "space", type := 9, offset := 2, embedded := false, tag := "", pkgPath := "runnel/pick", byteOffset := 16 }], size := 3, bytes := 32, zero := .agg #[.int .i64 (0), .bool false, .string ⟨#[]⟩] }
theorem tyOk126 : TyOk Try.prog 126 ty126 := ⟨Try.underlying126, by kernel_rfl⟩
def ty131 : TI := { u := .pointer 133, size := 1, bytes := 8, zero := .pointer none }
theorem tyOk131 : TyOk Try.prog 131 ty131 := ⟨Try.underlying131, by kernel_rfl⟩
def ty132 : TI := { u := .struct #[{ name := "text", type := 44, offset := 0, embedded := false, tag := "", pkgPath := "runnel/subst", byteOffset := 0 }, { name := "full", type := 4, offset := 1, embedded := false, tag := "", pkgPath := "runnel/subst", byteOffset := 24 }], size := 2, bytes := 32, zero := .agg #[.slice none 0 0, .bool false] }
theorem tyOk132 : TyOk Try.prog 132 ty132 := ⟨Try.underlying132, by kernel_rfl⟩
def ty133 : TI := { u := .struct #[{ name := "text", type := 44, offset := 0, embedded := false, tag := "", pkgPath := "runnel/subst", byteOffset := 0 }, { name := "full", type := 4, offset := 1, embedded := false, tag := "", pkgPath := "runnel/subst", byteOffset := 24 }], size := 2, bytes := 32, zero := .agg #[.slice none 0 0, .bool false] }
theorem tyOk133 : TyOk Try.prog 133 ty133 := ⟨Try.underlying133, by kernel_rfl⟩
def ty137 : TI := { u := .pointer 143, size := 1, bytes := 8, zero := .pointer none }
theorem tyOk137 : TyOk Try.prog 137 ty137 := ⟨Try.underlying137, by kernel_rfl⟩
def ty138 : TI := { u := .struct #[{ name := "kids", type := 80, offset := 0, embedded := false, tag := "", pkgPath := "runnel/bre", byteOffset := 0 }, { name := "sizes", type := 89, offset := 1, embedded := false, tag := "", pkgPath := "runnel/bre", byteOffset := 24 }, { name := "group", type := 3, offset := 2, embedded := false, tag := "", pkgPath := "runnel/bre", byteOffset := 48 }, { name := "at", type := 3, offset := 3, embedded := false, tag := "", pkgPath := "runnel/bre", byteOffset := 56 }], size := 4, bytes := 64, zero := .agg #[.slice none 0 0, .slice none 0 0, .int .i64 (0), .int .i64 (0)] }
theorem tyOk138 : TyOk Try.prog 138 ty138 := ⟨Try.underlying138, by kernel_rfl⟩
def ty139 : TI := { u := .struct #[{ name := "kids", type := 80, offset := 0, embedded := false, tag := "", pkgPath := "runnel/bre", byteOffset := 0 }, { name := "sizes", type := 89, offset := 1, embedded := false, tag := "", pkgPath := "runnel/bre", byteOffset := 24 }, { name := "group", type := 3, offset := 2, embedded := false, tag := "", pkgPath := "runnel/bre", byteOffset := 48 }, { name := "at", type := 3, offset := 3, embedded := false, tag := "", pkgPath := "runnel/bre", byteOffset := 56 }], size := 4, bytes := 64, zero := .agg #[.slice none 0 0, .slice none 0 0, .int .i64 (0), .int .i64 (0)] }
theorem tyOk139 : TyOk Try.prog 139 ty139 := ⟨Try.underlying139, by kernel_rfl⟩
def ty140 : TI := { u := .slice 139, size := 1, bytes := 24, zero := .slice none 0 0 }
theorem tyOk140 : TyOk Try.prog 140 ty140 := ⟨Try.underlying140, by kernel_rfl⟩
def ty141 : TI := { u := .array 10 4, size := 10, bytes := 10, zero := .agg #[.bool false, .bool false, .bool false, .bool false, .bool false, .bool false, .bool false, .bool false, .bool false, .bool false] }
theorem tyOk141 : TyOk Try.prog 141 ty141 := ⟨Try.underlying141, by kernel_rfl⟩
def ty142 : TI := { u := .struct #[{ name := "frames", type := 140, offset := 0, embedded := false, tag := "", pkgPath := "runnel/bre", byteOffset := 0 }, { name := "groups", type := 3, offset := 1, embedded := false, tag := "", pkgPath := "runnel/bre", byteOffset := 24 }, { name := "shut", type := 141, offset := 2, embedded := false, tag := "", pkgPath := "runnel/bre", byteOffset := 32 }, { name := "size", type := 3, offset := 12, embedded := false, tag := "", pkgPath := "runnel/bre", byteOffset := 48 }], size := 13, bytes := 56, zero := .agg #[.slice none 0 0, .int .i64 (0), .bool false, .bool false, .bool false, .bool false, .bool false, .bool false, .bool false, .bool false, .bool false, .bool false, .int .i64 (0)] }
theorem tyOk142 : TyOk Try.prog 142 ty142 := ⟨Try.underlying142, by kernel_rfl⟩
def ty143 : TI := { u := .struct #[{ name := "frames", type := 140, offset := 0, embedded := false, tag := "", pkgPath := "runnel/bre", byteOffset := 0 }, { name := "groups", type := 3, offset := 1, embedded := false, tag := "", pkgPath := "runnel/bre", byteOffset := 24 }, { name := "shut", type := 141, offset := 2, embedded := false, tag := "", pkgPath := "runnel/bre", byteOffset := 32 }, { name := "size", type := 3, offset := 12, embedded := false, tag := "", pkgPath := "runnel/bre", byteOffset := 48 }], size := 13, bytes := 56, zero := .agg #[.slice none 0 0, .int .i64 (0), .bool false, .bool false, .bool false, .bool false, .bool false, .bool false, .bool false, .bool false, .bool false, .bool false, .int .i64 (0)] }
theorem tyOk143 : TyOk Try.prog 143 ty143 := ⟨Try.underlying143, by kernel_rfl⟩
def ty147 : TI := { u := .struct #[{ name := "kind", type := 3, offset := 0, embedded := false, tag := "", pkgPath := "runnel/bre", byteOffset := 0 }, { name := "at", type := 3, offset := 1, embedded := false, tag := "", pkgPath := "runnel/bre", byteOffset := 8 }, { name := "set", type := 79, offset := 2, embedded := false, tag := "", pkgPath := "runnel/bre", byteOffset := 16 }, { name := "lo", type := 3, offset := 6, embedded := false, tag := "", pkgPath := "runnel/bre", byteOffset := 48 }, { name := "hi", type := 3, offset := 7, embedded := false, tag := "", pkgPath := "runnel/bre", byteOffset := 56 }, { name := "e", type := 23, offset := 8, embedded := false, tag := "", pkgPath := "runnel/bre", byteOffset := 64 }], size := 9, bytes := 72, zero := .agg #[.int .i64 (0), .int .i64 (0), .int .u64 (0), .int .u64 (0), .int .u64 (0), .int .u64 (0), .int .i64 (0), .int .i64 (0), .int .i64 (0)] }
theorem tyOk147 : TyOk Try.prog 147 ty147 := ⟨Try.underlying147, by kernel_rfl⟩
def ty148 : TI := { u := .struct #[{ name := "kind", type := 3, offset := 0, embedded := false, tag := "", pkgPath := "runnel/bre", byteOffset := 0 }, { name := "at", type := 3, offset := 1, embedded := false, tag := "", pkgPath := "runnel/bre", byteOffset := 8 }, { name := "set", type := 79, offset := 2, embedded := false, tag := "", pkgPath := "runnel/bre", byteOffset := 16 }, { name := "lo", type := 3, offset := 6, embedded := false, tag := "", pkgPath := "runnel/bre", byteOffset := 48 }, { name := "hi", type := 3, offset := 7, embedded := false, tag := "", pkgPath := "runnel/bre", byteOffset := 56 }, { name := "e", type := 23, offset := 8, embedded := false, tag := "", pkgPath := "runnel/bre", byteOffset := 64 }], size := 9, bytes := 72, zero := .agg #[.int .i64 (0), .int .i64 (0), .int .u64 (0), .int .u64 (0), .int .u64 (0), .int .u64 (0), .int .i64 (0), .int .i64 (0), .int .i64 (0)] }
theorem tyOk148 : TyOk Try.prog 148 ty148 := ⟨Try.underlying148, by kernel_rfl⟩
def ty150 : TI := { u := .pointer 139, size := 1, bytes := 8, zero := .pointer none }
theorem tyOk150 : TyOk Try.prog 150 ty150 := ⟨Try.underlying150, by kernel_rfl⟩
def ty152 : TI := { u := .struct #[{ name := "r", type := 91, offset := 0, embedded := false, tag := "", pkgPath := "runnel/ways", byteOffset := 0 }, { name := "at", type := 3, offset := 1, embedded := false, tag := "", pkgPath := "runnel/ways", byteOffset := 8 }], size := 2, bytes := 16, zero := .agg #[.pointer none, .int .i64 (0)] }
theorem tyOk152 : TyOk Try.prog 152 ty152 := ⟨Try.underlying152, by kernel_rfl⟩
def ty153 : TI := { u := .struct #[{ name := "r", type := 91, offset := 0, embedded := false, tag := "", pkgPath := "runnel/ways", byteOffset := 0 }, { name := "at", type := 3, offset := 1, embedded := false, tag := "", pkgPath := "runnel/ways", byteOffset := 8 }], size := 2, bytes := 16, zero := .agg #[.pointer none, .int .i64 (0)] }
theorem tyOk153 : TyOk Try.prog 153 ty153 := ⟨Try.underlying153, by kernel_rfl⟩
def ty159 : TI := { u := .slice 4, size := 1, bytes := 24, zero := .slice none 0 0 }
theorem tyOk159 : TyOk Try.prog 159 ty159 := ⟨Try.underlying159, by kernel_rfl⟩
def ty161 : TI := { u := .slice 213, size := 1, bytes := 24, zero := .slice none 0 0 }
theorem tyOk161 : TyOk Try.prog 161 ty161 := ⟨Try.underlying161, by kernel_rfl⟩
def ty162 : TI := { u := .struct #[{ name := "out", type := 161, offset := 0, embedded := false, tag := "", pkgPath := "runnel/nfa", byteOffset := 0 }, { name := "back", type := 161, offset := 1, embedded := false, tag := "", pkgPath := "runnel/nfa", byteOffset := 24 }, { name := "end", type := 3, offset := 2, embedded := false, tag := "", pkgPath := "runnel/nfa", byteOffset := 48 }], size := 3, bytes := 56, zero := .agg #[.slice none 0 0, .slice none 0 0, .int .i64 (0)] }
theorem tyOk162 : TyOk Try.prog 162 ty162 := ⟨Try.underlying162, by kernel_rfl⟩
def ty163 : TI := { u := .struct #[{ name := "out", type := 161, offset := 0, embedded := false, tag := "", pkgPath := "runnel/nfa", byteOffset := 0 }, { name := "back", type := 161, offset := 1, embedded := false, tag := "", pkgPath := "runnel/nfa", byteOffset := 24 }, { name := "end", type := 3, offset := 2, embedded := false, tag := "", pkgPath := "runnel/nfa", byteOffset := 48 }], size := 3, bytes := 56, zero := .agg #[.slice none 0 0, .slice none 0 0, .int .i64 (0)] }
theorem tyOk163 : TyOk Try.prog 163 ty163 := ⟨Try.underlying163, by kernel_rfl⟩
def ty168 : TI := { u := .pointer 170, size := 1, bytes := 8, zero := .pointer none }
theorem tyOk168 : TyOk Try.prog 168 ty168 := ⟨Try.underlying168, by kernel_rfl⟩
def ty169 : TI := { u := .struct #[{ name := "addr", type := 168, offset := 0, embedded := false, tag := "", pkgPath := "strings", byteOffset := 0 }, { name := "buf", type := 44, offset := 1, embedded := false, tag := "", pkgPath := "strings", byteOffset := 8 }], size := 2, bytes := 32, zero := .agg #[.pointer none, .slice none 0 0] }
theorem tyOk169 : TyOk Try.prog 169 ty169 := ⟨Try.underlying169, by kernel_rfl⟩
def ty170 : TI := { u := .struct #[{ name := "addr", type := 168, offset := 0, embedded := false, tag := "", pkgPath := "strings", byteOffset := 0 }, { name := "buf", type := 44, offset := 1, embedded := false, tag := "", pkgPath := "strings", byteOffset := 8 }], size := 2, bytes := 32, zero := .agg #[.pointer none, .slice none 0 0] }
theorem tyOk170 : TyOk Try.prog 170 ty170 := ⟨Try.underlying170, by kernel_rfl⟩
def ty187 : TI := { u := .pointer 98, size := 1, bytes := 8, zero := .pointer none }
theorem tyOk187 : TyOk Try.prog 187 ty187 := ⟨Try.underlying187, by kernel_rfl⟩
def ty189 : TI := { u := .struct #[{ name := "state", type := 3, offset := 0, embedded := false, tag := "", pkgPath := "runnel/nfa", byteOffset := 0 }, { name := "at", type := 3, offset := 1, embedded := false, tag := "", pkgPath := "runnel/nfa", byteOffset := 8 }], size := 2, bytes := 16, zero := .agg #[.int .i64 (0), .int .i64 (0)] }
theorem tyOk189 : TyOk Try.prog 189 ty189 := ⟨Try.underlying189, by kernel_rfl⟩
def ty190 : TI := { u := .struct #[{ name := "state", type := 3, offset := 0, embedded := false, tag := "", pkgPath := "runnel/nfa", byteOffset := 0 }, { name := "at", type := 3, offset := 1, embedded := false, tag := "", pkgPath := "runnel/nfa", byteOffset := 8 }], size := 2, bytes := 16, zero := .agg #[.int .i64 (0), .int .i64 (0)] }
theorem tyOk190 : TyOk Try.prog 190 ty190 := ⟨Try.underlying190, by kernel_rfl⟩
def ty196 : TI := { u := .slice 203, size := 1, bytes := 24, zero := .slice none 0 0 }
theorem tyOk196 : TyOk Try.prog 196 ty196 := ⟨Try.underlying196, by kernel_rfl⟩
def ty197 : TI := { u := .pointer 199, size := 1, bytes := 8, zero := .pointer none }
theorem tyOk197 : TyOk Try.prog 197 ty197 := ⟨Try.underlying197, by kernel_rfl⟩
def ty198 : TI := { u := .struct #[{ name := "r", type := 91, offset := 0, embedded := false, tag := "", pkgPath := "runnel/backmatch", byteOffset := 0 }, { name := "k", type := 3, offset := 1, embedded := false, tag := "", pkgPath := "runnel/backmatch", byteOffset := 8 }, { name := "i", type := 3, offset := 2, embedded := false, tag := "", pkgPath := "runnel/backmatch", byteOffset := 16 }, { name := "j", type := 3, offset := 3, embedded := false, tag := "", pkgPath := "runnel/backmatch", byteOffset := 24 }, { name := "next", type := 197, offset := 4, embedded := false, tag := "", pkgPath := "runnel/backmatch", byteOffset := 32 }], size := 5, bytes := 40, zero := .agg #[.pointer none, .int .i64 (0), .int .i64 (0), .int .i64 (0), .pointer none] }
theorem tyOk198 : TyOk Try.prog 198 ty198 := ⟨Try.underlying198, by kernel_rfl⟩
def ty199 : TI := { u := .struct #[{ name := "r", type := 91, offset := 0, embedded := false, tag := "", pkgPath := "runnel/backmatch", byteOffset := 0 }, { name := "k", type := 3, offset := 1, embedded := false, tag := "", pkgPath := "runnel/backmatch", byteOffset := 8 }, { name := "i", type := 3, offset := 2, embedded := false, tag := "", pkgPath := "runnel/backmatch", byteOffset := 16 }, { name := "j", type := 3, offset := 3, embedded := false, tag := "", pkgPath := "runnel/backmatch", byteOffset := 24 }, { name := "next", type := 197, offset := 4, embedded := false, tag := "", pkgPath := "runnel/backmatch", byteOffset := 32 }], size := 5, bytes := 40, zero := .agg #[.pointer none, .int .i64 (0), .int .i64 (0), .int .i64 (0), .pointer none] }
theorem tyOk199 : TyOk Try.prog 199 ty199 := ⟨Try.underlying199, by kernel_rfl⟩
def ty202 : TI := { u := .struct #[{ name := "task", type := 197, offset := 0, embedded := false, tag := "", pkgPath := "runnel/backmatch", byteOffset := 0 }, { name := "ends", type := 89, offset := 1, embedded := false, tag := "", pkgPath := "runnel/backmatch", byteOffset := 8 }, { name := "spans", type := 28, offset := 2, embedded := false, tag := "", pkgPath := "runnel/backmatch", byteOffset := 32 }], size := 3, bytes := 56, zero := .agg #[.pointer none, .slice none 0 0, .slice none 0 0] }
theorem tyOk202 : TyOk Try.prog 202 ty202 := ⟨Try.underlying202, by kernel_rfl⟩
def ty203 : TI := { u := .struct #[{ name := "task", type := 197, offset := 0, embedded := false, tag := "", pkgPath := "runnel/backmatch", byteOffset := 0 }, { name := "ends", type := 89, offset := 1, embedded := false, tag := "", pkgPath := "runnel/backmatch", byteOffset := 8 }, { name := "spans", type := 28, offset := 2, embedded := false, tag := "", pkgPath := "runnel/backmatch", byteOffset := 32 }], size := 3, bytes := 56, zero := .agg #[.pointer none, .slice none 0 0, .slice none 0 0] }
theorem tyOk203 : TyOk Try.prog 203 ty203 := ⟨Try.underlying203, by kernel_rfl⟩
def ty205 : TI := { u := .pointer 203, size := 1, bytes := 8, zero := .pointer none }
theorem tyOk205 : TyOk Try.prog 205 ty205 := ⟨Try.underlying205, by kernel_rfl⟩
def ty206 : TI := { u := .pointer 5, size := 1, bytes := 8, zero := .pointer none }
theorem tyOk206 : TyOk Try.prog 206 ty206 := ⟨Try.underlying206, by kernel_rfl⟩
def ty212 : TI := { u := .slice 190, size := 1, bytes := 24, zero := .slice none 0 0 }
theorem tyOk212 : TyOk Try.prog 212 ty212 := ⟨Try.underlying212, by kernel_rfl⟩
def ty213 : TI := { u := .slice 215, size := 1, bytes := 24, zero := .slice none 0 0 }
theorem tyOk213 : TyOk Try.prog 213 ty213 := ⟨Try.underlying213, by kernel_rfl⟩
def ty214 : TI := { u := .struct #[{ name := "kind", type := 3, offset := 0, embedded := false, tag := "", pkgPath := "runnel/nfa", byteOffset := 0 }, { name := "set", type := 79, offset := 1, embedded := false, tag := "", pkgPath := "runnel/nfa", byteOffset := 8 }, { name := "to", type := 3, offset := 5, embedded := false, tag := "", pkgPath := "runnel/nfa", byteOffset := 40 }], size := 6, bytes := 48, zero := .agg #[.int .i64 (0), .int .u64 (0), .int .u64 (0), .int .u64 (0), .int .u64 (0), .int .i64 (0)] }
theorem tyOk214 : TyOk Try.prog 214 ty214 := ⟨Try.underlying214, by kernel_rfl⟩
def ty215 : TI := { u := .struct #[{ name := "kind", type := 3, offset := 0, embedded := false, tag := "", pkgPath := "runnel/nfa", byteOffset := 0 }, { name := "set", type := 79, offset := 1, embedded := false, tag := "", pkgPath := "runnel/nfa", byteOffset := 8 }, { name := "to", type := 3, offset := 5, embedded := false, tag := "", pkgPath := "runnel/nfa", byteOffset := 40 }], size := 6, bytes := 48, zero := .agg #[.int .i64 (0), .int .u64 (0), .int .u64 (0), .int .u64 (0), .int .u64 (0), .int .i64 (0)] }
theorem tyOk215 : TyOk Try.prog 215 ty215 := ⟨Try.underlying215, by kernel_rfl⟩
def ty219 : TI := { u := .struct #[{ name := "r", type := 91, offset := 0, embedded := false, tag := "", pkgPath := "runnel/backmatch", byteOffset := 0 }, { name := "k", type := 3, offset := 1, embedded := false, tag := "", pkgPath := "runnel/backmatch", byteOffset := 8 }, { name := "i", type := 3, offset := 2, embedded := false, tag := "", pkgPath := "runnel/backmatch", byteOffset := 16 }, { name := "j", type := 3, offset := 3, embedded := false, tag := "", pkgPath := "runnel/backmatch", byteOffset := 24 }], size := 4, bytes := 32, zero := .agg #[.pointer none, .int .i64 (0), .int .i64 (0), .int .i64 (0)] }
theorem tyOk219 : TyOk Try.prog 219 ty219 := ⟨Try.underlying219, by kernel_rfl⟩
def ty220 : TI := { u := .struct #[{ name := "r", type := 91, offset := 0, embedded := false, tag := "", pkgPath := "runnel/backmatch", byteOffset := 0 }, { name := "k", type := 3, offset := 1, embedded := false, tag := "", pkgPath := "runnel/backmatch", byteOffset := 8 }, { name := "i", type := 3, offset := 2, embedded := false, tag := "", pkgPath := "runnel/backmatch", byteOffset := 16 }, { name := "j", type := 3, offset := 3, embedded := false, tag := "", pkgPath := "runnel/backmatch", byteOffset := 24 }], size := 4, bytes := 32, zero := .agg #[.pointer none, .int .i64 (0), .int .i64 (0), .int .i64 (0)] }
theorem tyOk220 : TyOk Try.prog 220 ty220 := ⟨Try.underlying220, by kernel_rfl⟩
def ty221 : TI := { u := .unsafePointer, size := 1, bytes := 8, zero := .pointer none }
theorem tyOk221 : TyOk Try.prog 221 ty221 := ⟨Try.underlying221, by kernel_rfl⟩
def ty225 : TI := { u := .pointer 227, size := 1, bytes := 8, zero := .pointer none }
theorem tyOk225 : TyOk Try.prog 225 ty225 := ⟨Try.underlying225, by kernel_rfl⟩
def ty226 : TI := { u := .struct #[{ name := "text", type := 9, offset := 0, embedded := false, tag := "", pkgPath := "runnel/bracket", byteOffset := 0 }, { name := "at", type := 3, offset := 1, embedded := false, tag := "", pkgPath := "runnel/bracket", byteOffset := 16 }, { name := "e", type := 23, offset := 2, embedded := false, tag := "", pkgPath := "runnel/bracket", byteOffset := 24 }], size := 3, bytes := 32, zero := .agg #[.string ⟨#[]⟩, .int .i64 (0), .int .i64 (0)] }
theorem tyOk226 : TyOk Try.prog 226 ty226 := ⟨Try.underlying226, by kernel_rfl⟩
def ty227 : TI := { u := .struct #[{ name := "text", type := 9, offset := 0, embedded := false, tag := "", pkgPath := "runnel/bracket", byteOffset := 0 }, { name := "at", type := 3, offset := 1, embedded := false, tag := "", pkgPath := "runnel/bracket", byteOffset := 16 }, { name := "e", type := 23, offset := 2, embedded := false, tag := "", pkgPath := "runnel/bracket", byteOffset := 24 }], size := 3, bytes := 32, zero := .agg #[.string ⟨#[]⟩, .int .i64 (0), .int .i64 (0)] }
theorem tyOk227 : TyOk Try.prog 227 ty227 := ⟨Try.underlying227, by kernel_rfl⟩
def ty238 : TI := { u := .pointer 79, size := 1, bytes := 8, zero := .pointer none }
theorem tyOk238 : TyOk Try.prog 238 ty238 := ⟨Try.underlying238, by kernel_rfl⟩
def ty247 : TI := { u := .int .u64, size := 1, bytes := 8, zero := .int .u64 (0) }
theorem tyOk247 : TyOk Try.prog 247 ty247 := ⟨Try.underlying247, by kernel_rfl⟩
def ty248 : TI := { u := .int .u32, size := 1, bytes := 4, zero := .int .u32 (0) }
theorem tyOk248 : TyOk Try.prog 248 ty248 := ⟨Try.underlying248, by kernel_rfl⟩
def TTl : List (Nat × TI) := [(2, ty2), (3, ty3), (4, ty4), (5, ty5), (9, ty9), (12, ty12), (21, ty21), (23, ty23), (28, ty28), (32, ty32), (33, ty33), (39, ty39), (44, ty44), (45, ty45), (51, ty51), (54, ty54), (55, ty55), (57, ty57), (58, ty58), (59, ty59), (60, ty60), (66, ty66), (67, ty67), (72, ty72), (73, ty73), (74, ty74), (77, ty77), (78, ty78), (79, ty79), (80, ty80), (81, ty81), (82, ty82), (85, ty85), (86, ty86), (87, ty87), (88, ty88), (89, ty89), (91, ty91), (92, ty92), (93, ty93), (96, ty96), (97, ty97), (98, ty98), (99, ty99), (100, ty100), (103, ty103), (106, ty106), (107, ty107), (108, ty108), (109, ty109), (111, ty111), (112, ty112), (117, ty117), (118, ty118), (119, ty119), (122, ty122), (123, ty123), (124, ty124), (125, ty125), (126, ty126), (131, ty131), (132, ty132), (133, ty133), (137, ty137), (138, ty138), (139, ty139), (140, ty140), (141, ty141), (142, ty142), (143, ty143), (147, ty147), (148, ty148), (150, ty150), (152, ty152), (153, ty153), (159, ty159), (161, ty161), (162, ty162), (163, ty163), (168, ty168), (169, ty169), (170, ty170), (187, ty187), (189, ty189), (190, ty190), (196, ty196), (197, ty197), (198, ty198), (199, ty199), (202, ty202), (203, ty203), (205, ty205), (206, ty206), (212, ty212), (213, ty213), (214, ty214), (215, ty215), (219, ty219), (220, ty220), (221, ty221), (225, ty225), (226, ty226), (227, ty227), (238, ty238), (247, ty247), (248, ty248)]
def TB : TyTab Try.prog := tabOf TTl ⟨tyOk2, tyOk3, tyOk4, tyOk5, tyOk9, tyOk12, tyOk21, tyOk23, tyOk28, tyOk32, tyOk33, tyOk39, tyOk44, tyOk45, tyOk51, tyOk54, tyOk55, tyOk57, tyOk58, tyOk59, tyOk60, tyOk66, tyOk67, tyOk72, tyOk73, tyOk74, tyOk77, tyOk78, tyOk79, tyOk80, tyOk81, tyOk82, tyOk85, tyOk86, tyOk87, tyOk88, tyOk89, tyOk91, tyOk92, tyOk93, tyOk96, tyOk97, tyOk98, tyOk99, tyOk100, tyOk103, tyOk106, tyOk107, tyOk108, tyOk109, tyOk111, tyOk112, tyOk117, tyOk118, tyOk119, tyOk122, tyOk123, tyOk124, tyOk125, tyOk126, tyOk131, tyOk132, tyOk133, tyOk137, tyOk138, tyOk139, tyOk140, tyOk141, tyOk142, tyOk143, tyOk147, tyOk148, tyOk150, tyOk152, tyOk153, tyOk159, tyOk161, tyOk162, tyOk163, tyOk168, tyOk169, tyOk170, tyOk187, tyOk189, tyOk190, tyOk196, tyOk197, tyOk198, tyOk199, tyOk202, tyOk203, tyOk205, tyOk206, tyOk212, tyOk213, tyOk214, tyOk215, tyOk219, tyOk220, tyOk221, tyOk225, tyOk226, tyOk227, tyOk238, tyOk247, tyOk248, trivial⟩
theorem eqg32 : Try.prog.eqGuardType Try.prog.depth 32 = false := by kernel_rfl
theorem sth32 : Try.prog.stoodInHeld 32 = false := by kernel_rfl
theorem eqg33 : Try.prog.eqGuardType Try.prog.depth 33 = false := by kernel_rfl
theorem sth33 : Try.prog.stoodInHeld 33 = false := by kernel_rfl
theorem eqg54 : Try.prog.eqGuardType Try.prog.depth 54 = false := by kernel_rfl
theorem sth54 : Try.prog.stoodInHeld 54 = false := by kernel_rfl
theorem eqg55 : Try.prog.eqGuardType Try.prog.depth 55 = false := by kernel_rfl
theorem sth55 : Try.prog.stoodInHeld 55 = false := by kernel_rfl
theorem eqg57 : Try.prog.eqGuardType Try.prog.depth 57 = false := by kernel_rfl
theorem sth57 : Try.prog.stoodInHeld 57 = false := by kernel_rfl
theorem eqg58 : Try.prog.eqGuardType Try.prog.depth 58 = false := by kernel_rfl
theorem sth58 : Try.prog.stoodInHeld 58 = false := by kernel_rfl
theorem eqg60 : Try.prog.eqGuardType Try.prog.depth 60 = false := by kernel_rfl
theorem eqg66 : Try.prog.eqGuardType Try.prog.depth 66 = false := by kernel_rfl
theorem sth66 : Try.prog.stoodInHeld 66 = false := by kernel_rfl
theorem eqg67 : Try.prog.eqGuardType Try.prog.depth 67 = false := by kernel_rfl
theorem sth67 : Try.prog.stoodInHeld 67 = false := by kernel_rfl
theorem eqg72 : Try.prog.eqGuardType Try.prog.depth 72 = false := by kernel_rfl
theorem sth72 : Try.prog.stoodInHeld 72 = false := by kernel_rfl
theorem eqg73 : Try.prog.eqGuardType Try.prog.depth 73 = false := by kernel_rfl
theorem sth73 : Try.prog.stoodInHeld 73 = false := by kernel_rfl
theorem eqg78 : Try.prog.eqGuardType Try.prog.depth 78 = false := by kernel_rfl
theorem eqg79 : Try.prog.eqGuardType Try.prog.depth 79 = false := by kernel_rfl
theorem eqg81 : Try.prog.eqGuardType Try.prog.depth 81 = false := by kernel_rfl
theorem sth81 : Try.prog.stoodInHeld 81 = false := by kernel_rfl
theorem eqg82 : Try.prog.eqGuardType Try.prog.depth 82 = false := by kernel_rfl
theorem sth82 : Try.prog.stoodInHeld 82 = false := by kernel_rfl
theorem eqg87 : Try.prog.eqGuardType Try.prog.depth 87 = false := by kernel_rfl
theorem sth87 : Try.prog.stoodInHeld 87 = false := by kernel_rfl
theorem eqg88 : Try.prog.eqGuardType Try.prog.depth 88 = false := by kernel_rfl
theorem sth88 : Try.prog.stoodInHeld 88 = false := by kernel_rfl
theorem eqg92 : Try.prog.eqGuardType Try.prog.depth 92 = false := by kernel_rfl
theorem sth92 : Try.prog.stoodInHeld 92 = false := by kernel_rfl
theorem eqg93 : Try.prog.eqGuardType Try.prog.depth 93 = false := by kernel_rfl
theorem sth93 : Try.prog.stoodInHeld 93 = false := by kernel_rfl
theorem eqg97 : Try.prog.eqGuardType Try.prog.depth 97 = false := by kernel_rfl
theorem sth97 : Try.prog.stoodInHeld 97 = false := by kernel_rfl
theorem eqg98 : Try.prog.eqGuardType Try.prog.depth 98 = false := by kernel_rfl
theorem sth98 : Try.prog.stoodInHeld 98 = false := by kernel_rfl
theorem eqg99 : Try.prog.eqGuardType Try.prog.depth 99 = false := by kernel_rfl
theorem sth99 : Try.prog.stoodInHeld 99 = false := by kernel_rfl
theorem eqg100 : Try.prog.eqGuardType Try.prog.depth 100 = false := by kernel_rfl
theorem sth100 : Try.prog.stoodInHeld 100 = false := by kernel_rfl
theorem eqg108 : Try.prog.eqGuardType Try.prog.depth 108 = false := by kernel_rfl
theorem sth108 : Try.prog.stoodInHeld 108 = false := by kernel_rfl
theorem eqg109 : Try.prog.eqGuardType Try.prog.depth 109 = false := by kernel_rfl
theorem sth109 : Try.prog.stoodInHeld 109 = false := by kernel_rfl
theorem eqg111 : Try.prog.eqGuardType Try.prog.depth 111 = false := by kernel_rfl
theorem sth111 : Try.prog.stoodInHeld 111 = false := by kernel_rfl
theorem eqg112 : Try.prog.eqGuardType Try.prog.depth 112 = false := by kernel_rfl
theorem sth112 : Try.prog.stoodInHeld 112 = false := by kernel_rfl
theorem eqg118 : Try.prog.eqGuardType Try.prog.depth 118 = false := by kernel_rfl
theorem sth118 : Try.prog.stoodInHeld 118 = false := by kernel_rfl
theorem eqg119 : Try.prog.eqGuardType Try.prog.depth 119 = false := by kernel_rfl
theorem sth119 : Try.prog.stoodInHeld 119 = false := by kernel_rfl
theorem eqg122 : Try.prog.eqGuardType Try.prog.depth 122 = false := by kernel_rfl
theorem sth122 : Try.prog.stoodInHeld 122 = false := by kernel_rfl
theorem eqg123 : Try.prog.eqGuardType Try.prog.depth 123 = false := by kernel_rfl
theorem sth123 : Try.prog.stoodInHeld 123 = false := by kernel_rfl
theorem eqg125 : Try.prog.eqGuardType Try.prog.depth 125 = false := by kernel_rfl
theorem sth125 : Try.prog.stoodInHeld 125 = false := by kernel_rfl
theorem eqg126 : Try.prog.eqGuardType Try.prog.depth 126 = false := by kernel_rfl
theorem sth126 : Try.prog.stoodInHeld 126 = false := by kernel_rfl
theorem eqg132 : Try.prog.eqGuardType Try.prog.depth 132 = false := by kernel_rfl
theorem sth132 : Try.prog.stoodInHeld 132 = false := by kernel_rfl
theorem eqg133 : Try.prog.eqGuardType Try.prog.depth 133 = false := by kernel_rfl
theorem sth133 : Try.prog.stoodInHeld 133 = false := by kernel_rfl
theorem eqg138 : Try.prog.eqGuardType Try.prog.depth 138 = false := by kernel_rfl
theorem sth138 : Try.prog.stoodInHeld 138 = false := by kernel_rfl
theorem eqg139 : Try.prog.eqGuardType Try.prog.depth 139 = false := by kernel_rfl
theorem sth139 : Try.prog.stoodInHeld 139 = false := by kernel_rfl
theorem eqg141 : Try.prog.eqGuardType Try.prog.depth 141 = false := by kernel_rfl
theorem eqg142 : Try.prog.eqGuardType Try.prog.depth 142 = false := by kernel_rfl
theorem sth142 : Try.prog.stoodInHeld 142 = false := by kernel_rfl
theorem eqg143 : Try.prog.eqGuardType Try.prog.depth 143 = false := by kernel_rfl
theorem sth143 : Try.prog.stoodInHeld 143 = false := by kernel_rfl
theorem eqg147 : Try.prog.eqGuardType Try.prog.depth 147 = false := by kernel_rfl
theorem sth147 : Try.prog.stoodInHeld 147 = false := by kernel_rfl
theorem eqg148 : Try.prog.eqGuardType Try.prog.depth 148 = false := by kernel_rfl
theorem sth148 : Try.prog.stoodInHeld 148 = false := by kernel_rfl
theorem eqg152 : Try.prog.eqGuardType Try.prog.depth 152 = false := by kernel_rfl
theorem sth152 : Try.prog.stoodInHeld 152 = false := by kernel_rfl
theorem eqg153 : Try.prog.eqGuardType Try.prog.depth 153 = false := by kernel_rfl
theorem sth153 : Try.prog.stoodInHeld 153 = false := by kernel_rfl
theorem eqg162 : Try.prog.eqGuardType Try.prog.depth 162 = false := by kernel_rfl
theorem sth162 : Try.prog.stoodInHeld 162 = false := by kernel_rfl
theorem eqg163 : Try.prog.eqGuardType Try.prog.depth 163 = false := by kernel_rfl
theorem sth163 : Try.prog.stoodInHeld 163 = false := by kernel_rfl
theorem eqg169 : Try.prog.eqGuardType Try.prog.depth 169 = false := by kernel_rfl
theorem sth169 : Try.prog.stoodInHeld 169 = false := by kernel_rfl
theorem eqg170 : Try.prog.eqGuardType Try.prog.depth 170 = false := by kernel_rfl
theorem sth170 : Try.prog.stoodInHeld 170 = false := by kernel_rfl
theorem eqg189 : Try.prog.eqGuardType Try.prog.depth 189 = false := by kernel_rfl
theorem sth189 : Try.prog.stoodInHeld 189 = false := by kernel_rfl
theorem eqg190 : Try.prog.eqGuardType Try.prog.depth 190 = false := by kernel_rfl
theorem sth190 : Try.prog.stoodInHeld 190 = false := by kernel_rfl
theorem eqg198 : Try.prog.eqGuardType Try.prog.depth 198 = false := by kernel_rfl
theorem sth198 : Try.prog.stoodInHeld 198 = false := by kernel_rfl
theorem eqg199 : Try.prog.eqGuardType Try.prog.depth 199 = false := by kernel_rfl
theorem sth199 : Try.prog.stoodInHeld 199 = false := by kernel_rfl
theorem eqg202 : Try.prog.eqGuardType Try.prog.depth 202 = false := by kernel_rfl
theorem sth202 : Try.prog.stoodInHeld 202 = false := by kernel_rfl
theorem eqg203 : Try.prog.eqGuardType Try.prog.depth 203 = false := by kernel_rfl
theorem sth203 : Try.prog.stoodInHeld 203 = false := by kernel_rfl
theorem eqg214 : Try.prog.eqGuardType Try.prog.depth 214 = false := by kernel_rfl
theorem sth214 : Try.prog.stoodInHeld 214 = false := by kernel_rfl
theorem eqg215 : Try.prog.eqGuardType Try.prog.depth 215 = false := by kernel_rfl
theorem sth215 : Try.prog.stoodInHeld 215 = false := by kernel_rfl
theorem eqg219 : Try.prog.eqGuardType Try.prog.depth 219 = false := by kernel_rfl
theorem sth219 : Try.prog.stoodInHeld 219 = false := by kernel_rfl
theorem eqg220 : Try.prog.eqGuardType Try.prog.depth 220 = false := by kernel_rfl
theorem sth220 : Try.prog.stoodInHeld 220 = false := by kernel_rfl
theorem eqg226 : Try.prog.eqGuardType Try.prog.depth 226 = false := by kernel_rfl
theorem sth226 : Try.prog.stoodInHeld 226 = false := by kernel_rfl
theorem eqg227 : Try.prog.eqGuardType Try.prog.depth 227 = false := by kernel_rfl
theorem sth227 : Try.prog.stoodInHeld 227 = false := by kernel_rfl
theorem mixed : Try.prog.follows .mixedOrders = true := Try.checked.mixed
theorem ent3 : Enters Try.prog 3 := enters_of Try.func3 (by kernel_rfl) rfl
theorem ent4 : Enters Try.prog 4 := enters_of Try.func4 (by kernel_rfl) rfl
theorem ent5 : Enters Try.prog 5 := enters_of Try.func5 (by kernel_rfl) rfl
theorem ent6 : Enters Try.prog 6 := enters_of Try.func6 (by kernel_rfl) rfl
theorem ent7 : Enters Try.prog 7 := enters_of Try.func7 (by kernel_rfl) rfl
theorem ent8 : Enters Try.prog 8 := enters_of Try.func8 (by kernel_rfl) rfl
theorem ent9 : Enters Try.prog 9 := enters_of Try.func9 (by kernel_rfl) rfl
theorem ent10 : Enters Try.prog 10 := enters_of Try.func10 (by kernel_rfl) rfl
theorem ent11 : Enters Try.prog 11 := enters_of Try.func11 (by kernel_rfl) rfl
theorem ent12 : Enters Try.prog 12 := enters_of Try.func12 (by kernel_rfl) rfl
theorem ent13 : Enters Try.prog 13 := enters_of Try.func13 (by kernel_rfl) rfl
theorem ent14 : Enters Try.prog 14 := enters_of Try.func14 (by kernel_rfl) rfl
theorem ent15 : Enters Try.prog 15 := enters_of Try.func15 (by kernel_rfl) rfl
theorem ent16 : Enters Try.prog 16 := enters_of Try.func16 (by kernel_rfl) rfl
theorem ent17 : Enters Try.prog 17 := enters_of Try.func17 (by kernel_rfl) rfl
theorem ent18 : Enters Try.prog 18 := enters_of Try.func18 (by kernel_rfl) rfl
theorem ent19 : Enters Try.prog 19 := enters_of Try.func19 (by kernel_rfl) rfl
theorem ent20 : Enters Try.prog 20 := enters_of Try.func20 (by kernel_rfl) rfl
theorem ent21 : Enters Try.prog 21 := enters_of Try.func21 (by kernel_rfl) rfl
theorem ent22 : Enters Try.prog 22 := enters_of Try.func22 (by kernel_rfl) rfl
theorem ent23 : Enters Try.prog 23 := enters_of Try.func23 (by kernel_rfl) rfl
theorem ent24 : Enters Try.prog 24 := enters_of Try.func24 (by kernel_rfl) rfl
theorem ent25 : Enters Try.prog 25 := enters_of Try.func25 (by kernel_rfl) rfl
theorem ent26 : Enters Try.prog 26 := enters_of Try.func26 (by kernel_rfl) rfl
theorem ent27 : Enters Try.prog 27 := enters_of Try.func27 (by kernel_rfl) rfl
theorem ent28 : Enters Try.prog 28 := enters_of Try.func28 (by kernel_rfl) rfl
theorem ent29 : Enters Try.prog 29 := enters_of Try.func29 (by kernel_rfl) rfl
theorem ent30 : Enters Try.prog 30 := enters_of Try.func30 (by kernel_rfl) rfl
theorem ent31 : Enters Try.prog 31 := enters_of Try.func31 (by kernel_rfl) rfl
theorem ent32 : Enters Try.prog 32 := enters_of Try.func32 (by kernel_rfl) rfl
theorem ent33 : Enters Try.prog 33 := enters_of Try.func33 (by kernel_rfl) rfl
theorem ent34 : Enters Try.prog 34 := enters_of Try.func34 (by kernel_rfl) rfl
theorem ent35 : Enters Try.prog 35 := enters_of Try.func35 (by kernel_rfl) rfl
theorem ent36 : Enters Try.prog 36 := enters_of Try.func36 (by kernel_rfl) rfl
theorem ent37 : Enters Try.prog 37 := enters_of Try.func37 (by kernel_rfl) rfl
theorem ent38 : Enters Try.prog 38 := enters_of Try.func38 (by kernel_rfl) rfl
theorem ent39 : Enters Try.prog 39 := enters_of Try.func39 (by kernel_rfl) rfl
theorem ent40 : Enters Try.prog 40 := enters_of Try.func40 (by kernel_rfl) rfl
theorem ent41 : Enters Try.prog 41 := enters_of Try.func41 (by kernel_rfl) rfl
theorem ent42 : Enters Try.prog 42 := enters_of Try.func42 (by kernel_rfl) rfl
theorem ent43 : Enters Try.prog 43 := enters_of Try.func43 (by kernel_rfl) rfl
theorem ent44 : Enters Try.prog 44 := enters_of Try.func44 (by kernel_rfl) rfl
theorem ent45 : Enters Try.prog 45 := enters_of Try.func45 (by kernel_rfl) rfl
theorem ent46 : Enters Try.prog 46 := enters_of Try.func46 (by kernel_rfl) rfl
theorem ent47 : Enters Try.prog 47 := enters_of Try.func47 (by kernel_rfl) rfl
theorem ent48 : Enters Try.prog 48 := enters_of Try.func48 (by kernel_rfl) rfl
theorem ent49 : Enters Try.prog 49 := enters_of Try.func49 (by kernel_rfl) rfl
theorem ent50 : Enters Try.prog 50 := enters_of Try.func50 (by kernel_rfl) rfl
theorem ent51 : Enters Try.prog 51 := enters_of Try.func51 (by kernel_rfl) rfl
theorem ent52 : Enters Try.prog 52 := enters_of Try.func52 (by kernel_rfl) rfl
theorem ent53 : Enters Try.prog 53 := enters_of Try.func53 (by kernel_rfl) rfl
theorem ent54 : Enters Try.prog 54 := enters_of Try.func54 (by kernel_rfl) rfl
theorem ent55 : Enters Try.prog 55 := enters_of Try.func55 (by kernel_rfl) rfl
theorem ent56 : Enters Try.prog 56 := enters_of Try.func56 (by kernel_rfl) rfl
theorem ent57 : Enters Try.prog 57 := enters_of Try.func57 (by kernel_rfl) rfl
theorem ent58 : Enters Try.prog 58 := enters_of Try.func58 (by kernel_rfl) rfl
theorem ent59 : Enters Try.prog 59 := enters_of Try.func59 (by kernel_rfl) rfl
theorem ent60 : Enters Try.prog 60 := enters_of Try.func60 (by kernel_rfl) rfl
theorem ent61 : Enters Try.prog 61 := enters_of Try.func61 (by kernel_rfl) rfl
theorem ent62 : Enters Try.prog 62 := enters_of Try.func62 (by kernel_rfl) rfl
theorem ent63 : Enters Try.prog 63 := enters_of Try.func63 (by kernel_rfl) rfl
theorem ent64 : Enters Try.prog 64 := enters_of Try.func64 (by kernel_rfl) rfl
theorem ent65 : Enters Try.prog 65 := enters_of Try.func65 (by kernel_rfl) rfl
theorem ent66 : Enters Try.prog 66 := enters_of Try.func66 (by kernel_rfl) rfl
theorem ent67 : Enters Try.prog 67 := enters_of Try.func67 (by kernel_rfl) rfl
theorem ent68 : Enters Try.prog 68 := enters_of Try.func68 (by kernel_rfl) rfl
theorem ent69 : Enters Try.prog 69 := enters_of Try.func69 (by kernel_rfl) rfl
theorem ent70 : Enters Try.prog 70 := enters_of Try.func70 (by kernel_rfl) rfl
theorem ent71 : Enters Try.prog 71 := enters_of Try.func71 (by kernel_rfl) rfl
theorem ent72 : Enters Try.prog 72 := enters_of Try.func72 (by kernel_rfl) rfl
theorem ent73 : Enters Try.prog 73 := enters_of Try.func73 (by kernel_rfl) rfl
theorem ent74 : Enters Try.prog 74 := enters_of Try.func74 (by kernel_rfl) rfl
theorem ent75 : Enters Try.prog 75 := enters_of Try.func75 (by kernel_rfl) rfl
theorem ent76 : Enters Try.prog 76 := enters_of Try.func76 (by kernel_rfl) rfl
theorem ent77 : Enters Try.prog 77 := enters_of Try.func77 (by kernel_rfl) rfl
theorem ent78 : Enters Try.prog 78 := enters_of Try.func78 (by kernel_rfl) rfl
theorem ent79 : Enters Try.prog 79 := enters_of Try.func79 (by kernel_rfl) rfl
theorem ent80 : Enters Try.prog 80 := enters_of Try.func80 (by kernel_rfl) rfl
theorem ent81 : Enters Try.prog 81 := enters_of Try.func81 (by kernel_rfl) rfl
theorem ent82 : Enters Try.prog 82 := enters_of Try.func82 (by kernel_rfl) rfl
theorem ent83 : Enters Try.prog 83 := enters_of Try.func83 (by kernel_rfl) rfl
theorem ent84 : Enters Try.prog 84 := enters_of Try.func84 (by kernel_rfl) rfl
theorem ent85 : Enters Try.prog 85 := enters_of Try.func85 (by kernel_rfl) rfl
theorem ent86 : Enters Try.prog 86 := enters_of Try.func86 (by kernel_rfl) rfl
theorem ent87 : Enters Try.prog 87 := enters_of Try.func87 (by kernel_rfl) rfl
theorem ent88 : Enters Try.prog 88 := enters_of Try.func88 (by kernel_rfl) rfl
theorem ent89 : Enters Try.prog 89 := enters_of Try.func89 (by kernel_rfl) rfl
theorem ent90 : Enters Try.prog 90 := enters_of Try.func90 (by kernel_rfl) rfl
theorem ent91 : Enters Try.prog 91 := enters_of Try.func91 (by kernel_rfl) rfl
theorem ent92 : Enters Try.prog 92 := enters_of Try.func92 (by kernel_rfl) rfl
theorem ent93 : Enters Try.prog 93 := enters_of Try.func93 (by kernel_rfl) rfl
theorem ent94 : Enters Try.prog 94 := enters_of Try.func94 (by kernel_rfl) rfl
theorem ent95 : Enters Try.prog 95 := enters_of Try.func95 (by kernel_rfl) rfl
theorem ent96 : Enters Try.prog 96 := enters_of Try.func96 (by kernel_rfl) rfl
theorem ent97 : Enters Try.prog 97 := enters_of Try.func97 (by kernel_rfl) rfl
theorem ent98 : Enters Try.prog 98 := enters_of Try.func98 (by kernel_rfl) rfl
theorem ent99 : Enters Try.prog 99 := enters_of Try.func99 (by kernel_rfl) rfl
theorem ent100 : Enters Try.prog 100 := enters_of Try.func100 (by kernel_rfl) rfl
theorem ent101 : Enters Try.prog 101 := enters_of Try.func101 (by kernel_rfl) rfl
theorem ent102 : Enters Try.prog 102 := enters_of Try.func102 (by kernel_rfl) rfl
theorem ent103 : Enters Try.prog 103 := enters_of Try.func103 (by kernel_rfl) rfl
theorem ent104 : Enters Try.prog 104 := enters_of Try.func104 (by kernel_rfl) rfl
theorem ent105 : Enters Try.prog 105 := enters_of Try.func105 (by kernel_rfl) rfl
theorem ent107 : Enters Try.prog 107 := enters_of Try.func107 (by kernel_rfl) rfl
theorem ent108 : Enters Try.prog 108 := enters_of Try.func108 (by kernel_rfl) rfl
theorem ent109 : Enters Try.prog 109 := enters_of Try.func109 (by kernel_rfl) rfl
theorem ent110 : Enters Try.prog 110 := enters_of Try.func110 (by kernel_rfl) rfl
theorem ent111 : Enters Try.prog 111 := enters_of Try.func111 (by kernel_rfl) rfl
theorem ent112 : Enters Try.prog 112 := enters_of Try.func112 (by kernel_rfl) rfl
theorem ent113 : Enters Try.prog 113 := enters_of Try.func113 (by kernel_rfl) rfl
theorem ent114 : Enters Try.prog 114 := enters_of Try.func114 (by kernel_rfl) rfl
theorem ent115 : Enters Try.prog 115 := enters_of Try.func115 (by kernel_rfl) rfl
theorem ent116 : Enters Try.prog 116 := enters_of Try.func116 (by kernel_rfl) rfl
theorem ent117 : Enters Try.prog 117 := enters_of Try.func117 (by kernel_rfl) rfl
theorem ent118 : Enters Try.prog 118 := enters_of Try.func118 (by kernel_rfl) rfl
theorem ent119 : Enters Try.prog 119 := enters_of Try.func119 (by kernel_rfl) rfl
theorem ent120 : Enters Try.prog 120 := enters_of Try.func120 (by kernel_rfl) rfl
theorem ent121 : Enters Try.prog 121 := enters_of Try.func121 (by kernel_rfl) rfl
theorem ent122 : Enters Try.prog 122 := enters_of Try.func122 (by kernel_rfl) rfl
theorem ent123 : Enters Try.prog 123 := enters_of Try.func123 (by kernel_rfl) rfl
theorem ent125 : Enters Try.prog 125 := enters_of Try.func125 (by kernel_rfl) rfl
theorem ent127 : Enters Try.prog 127 := enters_of Try.func127 (by kernel_rfl) rfl
theorem ent128 : Enters Try.prog 128 := enters_of Try.func128 (by kernel_rfl) rfl
theorem ent129 : Enters Try.prog 129 := enters_of Try.func129 (by kernel_rfl) rfl
end Go.Proofs.Ytblpgpgbnlhjlaa
