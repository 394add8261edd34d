/- Texts of this claim, bundled. -/
import Derived.Test.YtblpgpgbnlhjlaaGreatZw1
namespace Go.Proofs.YtblpgpgbnlhjlaaGreat
open Go Go.RowKit Sl
set_option maxRecDepth 100000
def ty1 : TI := { u := .func #[] #[] false, size := 1, bytes := 8, zero := .nilFunc }
theorem tyOk1 : TyOk Tryz.prog 1 ty1 := ⟨Tryz.underlying1, by kernel_rfl⟩
def ty2 : TI := { u := .int .i64, size := 1, bytes := 8, zero := .int .i64 (0) }
theorem tyOk2 : TyOk Tryz.prog 2 ty2 := ⟨Tryz.underlying2, by kernel_rfl⟩
def ty3 : TI := { u := .int .i64, size := 1, bytes := 8, zero := .int .i64 (0) }
theorem tyOk3 : TyOk Tryz.prog 3 ty3 := ⟨Tryz.underlying3, by kernel_rfl⟩
def ty4 : TI := { u := .bool, size := 1, bytes := 1, zero := .bool false }
theorem tyOk4 : TyOk Tryz.prog 4 ty4 := ⟨Tryz.underlying4, by kernel_rfl⟩
def ty5 : TI := { u := .int .u8, size := 1, bytes := 1, zero := .int .u8 (0) }
theorem tyOk5 : TyOk Tryz.prog 5 ty5 := ⟨Tryz.underlying5, by kernel_rfl⟩
def ty9 : TI := { u := .string, size := 1, bytes := 16, zero := .string ⟨#[]⟩ }
theorem tyOk9 : TyOk Tryz.prog 9 ty9 := ⟨Tryz.underlying9, by kernel_rfl⟩
def ty12 : TI := { u := .int .u64, size := 1, bytes := 8, zero := .int .u64 (0) }
theorem tyOk12 : TyOk Tryz.prog 12 ty12 := ⟨Tryz.underlying12, by kernel_rfl⟩
def ty21 : TI := { u := .int .i32, size := 1, bytes := 4, zero := .int .i32 (0) }
theorem tyOk21 : TyOk Tryz.prog 21 ty21 := ⟨Tryz.underlying21, by kernel_rfl⟩
def ty22 : TI := { u := .func #[] #[4] false, size := 1, bytes := 8, zero := .nilFunc }
theorem tyOk22 : TyOk Tryz.prog 22 ty22 := ⟨Tryz.underlying22, by kernel_rfl⟩
def ty23 : TI := { u := .slice 29, size := 1, bytes := 24, zero := .slice none 0 0 }
theorem tyOk23 : TyOk Tryz.prog 23 ty23 := ⟨Tryz.underlying23, by kernel_rfl⟩
def ty24 : TI := { u := .int .i64, size := 1, bytes := 8, zero := .int .i64 (0) }
theorem tyOk24 : TyOk Tryz.prog 24 ty24 := ⟨Tryz.underlying24, by kernel_rfl⟩
def ty26 : TI := { u := .func #[9, 9, 3] #[23, 4, 3, 24] false, size := 1, bytes := 8, zero := .nilFunc }
theorem tyOk26 : TyOk Tryz.prog 26 ty26 := ⟨Tryz.underlying26, by kernel_rfl⟩
def ty27 : TI := { u := .func #[9, 9] #[3] false, size := 1, bytes := 8, zero := .nilFunc }
theorem tyOk27 : TyOk Tryz.prog 27 ty27 := ⟨Tryz.underlying27, by kernel_rfl⟩
def ty28 : TI := { u := .struct #[{ name := "From", type := 3, offset := 0, embedded := false, tag := "", pkgPath := "", byteOffset := 0 }, { name := "To", type := 3, offset := 1, embedded := false, tag := "", pkgPath := "", byteOffset := 8 }], size := 2, bytes := 16, zero := .agg #[.int .i64 (0), .int .i64 (0)] }
theorem tyOk28 : TyOk Tryz.prog 28 ty28 := ⟨Tryz.underlying28, by kernel_rfl⟩
def ty29 : TI := { u := .struct #[{ name := "From", type := 3, offset := 0, embedded := false, tag := "", pkgPath := "", byteOffset := 0 }, { name := "To", type := 3, offset := 1, embedded := false, tag := "", pkgPath := "", byteOffset := 8 }], size := 2, bytes := 16, zero := .agg #[.int .i64 (0), .int .i64 (0)] }
theorem tyOk29 : TyOk Tryz.prog 29 ty29 := ⟨Tryz.underlying29, by kernel_rfl⟩
def ty30 : TI := { u := .func #[5, 5] #[4] false, size := 1, bytes := 8, zero := .nilFunc }
theorem tyOk30 : TyOk Tryz.prog 30 ty30 := ⟨Tryz.underlying30, by kernel_rfl⟩
def ty31 : TI := { u := .pointer 101, size := 1, bytes := 8, zero := .pointer none }
theorem tyOk31 : TyOk Tryz.prog 31 ty31 := ⟨Tryz.underlying31, by kernel_rfl⟩
def ty32 : TI := { u := .struct #[{ name := "E", type := 24, offset := 0, embedded := false, tag := "", pkgPath := "", byteOffset := 0 }, { name := "At", type := 3, offset := 1, embedded := false, tag := "", pkgPath := "", byteOffset := 8 }], size := 2, bytes := 16, zero := .agg #[.int .i64 (0), .int .i64 (0)] }
theorem tyOk32 : TyOk Tryz.prog 32 ty32 := ⟨Tryz.underlying32, by kernel_rfl⟩
def ty33 : TI := { u := .struct #[{ name := "E", type := 24, offset := 0, embedded := false, tag := "", pkgPath := "", byteOffset := 0 }, { name := "At", type := 3, offset := 1, embedded := false, tag := "", pkgPath := "", byteOffset := 8 }], size := 2, bytes := 16, zero := .agg #[.int .i64 (0), .int .i64 (0)] }
theorem tyOk33 : TyOk Tryz.prog 33 ty33 := ⟨Tryz.underlying33, by kernel_rfl⟩
def ty35 : TI := { u := .func #[9] #[31, 33] false, size := 1, bytes := 8, zero := .nilFunc }
theorem tyOk35 : TyOk Tryz.prog 35 ty35 := ⟨Tryz.underlying35, by kernel_rfl⟩
def ty36 : TI := { u := .pointer 48, size := 1, bytes := 8, zero := .pointer none }
theorem tyOk36 : TyOk Tryz.prog 36 ty36 := ⟨Tryz.underlying36, by kernel_rfl⟩
def ty38 : TI := { u := .func #[9] #[36, 3, 3] false, size := 1, bytes := 8, zero := .nilFunc }
theorem tyOk38 : TyOk Tryz.prog 38 ty38 := ⟨Tryz.underlying38, by kernel_rfl⟩
def ty39 : TI := { u := .func #[] #[9] false, size := 1, bytes := 8, zero := .nilFunc }
theorem tyOk39 : TyOk Tryz.prog 39 ty39 := ⟨Tryz.underlying39, by kernel_rfl⟩
def ty40 : TI := { u := .func #[] #[3] false, size := 1, bytes := 8, zero := .nilFunc }
theorem tyOk40 : TyOk Tryz.prog 40 ty40 := ⟨Tryz.underlying40, by kernel_rfl⟩
def ty41 : TI := { u := .int .u64, size := 1, bytes := 8, zero := .int .u64 (0) }
theorem tyOk41 : TyOk Tryz.prog 41 ty41 := ⟨Tryz.underlying41, by kernel_rfl⟩
def ty42 : TI := { u := .array 4 41, size := 4, bytes := 32, zero := .agg #[.int .u64 (0), .int .u64 (0), .int .u64 (0), .int .u64 (0)] }
theorem tyOk42 : TyOk Tryz.prog 42 ty42 := ⟨Tryz.underlying42, by kernel_rfl⟩
def ty43 : TI := { u := .array 4 41, size := 4, bytes := 32, zero := .agg #[.int .u64 (0), .int .u64 (0), .int .u64 (0), .int .u64 (0)] }
theorem tyOk43 : TyOk Tryz.prog 43 ty43 := ⟨Tryz.underlying43, by kernel_rfl⟩
def ty44 : TI := { u := .slice 46, size := 1, bytes := 24, zero := .slice none 0 0 }
theorem tyOk44 : TyOk Tryz.prog 44 ty44 := ⟨Tryz.underlying44, by kernel_rfl⟩
def ty45 : TI := { u := .struct #[{ name := "Kind", type := 3, offset := 0, embedded := false, tag := "", pkgPath := "", byteOffset := 0 }, { name := "Set", type := 43, offset := 1, embedded := false, tag := "", pkgPath := "", byteOffset := 8 }, { name := "Lo", type := 3, offset := 5, embedded := false, tag := "", pkgPath := "", byteOffset := 40 }, { name := "Hi", type := 3, offset := 6, embedded := false, tag := "", pkgPath := "", byteOffset := 48 }, { name := "Group", type := 3, offset := 7, embedded := false, tag := "", pkgPath := "", byteOffset := 56 }, { name := "Kids", type := 44, offset := 8, embedded := false, tag := "", pkgPath := "", byteOffset := 64 }], size := 9, bytes := 88, zero := .agg #[.int .i64 (0), .int .u64 (0), .int .u64 (0), .int .u64 (0), .int .u64 (0), .int .i64 (0), .int .i64 (0), .int .i64 (0), .slice none 0 0] }
theorem tyOk45 : TyOk Tryz.prog 45 ty45 := ⟨Tryz.underlying45, by kernel_rfl⟩
def ty46 : TI := { u := .struct #[{ name := "Kind", type := 3, offset := 0, embedded := false, tag := "", pkgPath := "", byteOffset := 0 }, { name := "Set", type := 43, offset := 1, embedded := false, tag := "", pkgPath := "", byteOffset := 8 }, { name := "Lo", type := 3, offset := 5, embedded := false, tag := "", pkgPath := "", byteOffset := 40 }, { name := "Hi", type := 3, offset := 6, embedded := false, tag := "", pkgPath := "", byteOffset := 48 }, { name := "Group", type := 3, offset := 7, embedded := false, tag := "", pkgPath := "", byteOffset := 56 }, { name := "Kids", type := 44, offset := 8, embedded := false, tag := "", pkgPath := "", byteOffset := 64 }], size := 9, bytes := 88, zero := .agg #[.int .i64 (0), .int .u64 (0), .int .u64 (0), .int .u64 (0), .int .u64 (0), .int .i64 (0), .int .i64 (0), .int .i64 (0), .slice none 0 0] }
theorem tyOk46 : TyOk Tryz.prog 46 ty46 := ⟨Tryz.underlying46, by kernel_rfl⟩
def ty47 : TI := { u := .struct #[{ name := "Text", type := 9, offset := 0, embedded := false, tag := "", pkgPath := "", byteOffset := 0 }, { name := "Re", type := 46, offset := 1, embedded := false, tag := "", pkgPath := "", byteOffset := 16 }, { name := "Back", type := 4, offset := 10, embedded := false, tag := "", pkgPath := "", byteOffset := 104 }, { name := "Groups", type := 3, offset := 11, embedded := false, tag := "", pkgPath := "", byteOffset := 112 }], size := 12, bytes := 120, zero := .agg #[.string ⟨#[]⟩, .int .i64 (0), .int .u64 (0), .int .u64 (0), .int .u64 (0), .int .u64 (0), .int .i64 (0), .int .i64 (0), .int .i64 (0), .slice none 0 0, .bool false, .int .i64 (0)] }
theorem tyOk47 : TyOk Tryz.prog 47 ty47 := ⟨Tryz.underlying47, by kernel_rfl⟩
def ty48 : TI := { u := .struct #[{ name := "Text", type := 9, offset := 0, embedded := false, tag := "", pkgPath := "", byteOffset := 0 }, { name := "Re", type := 46, offset := 1, embedded := false, tag := "", pkgPath := "", byteOffset := 16 }, { name := "Back", type := 4, offset := 10, embedded := false, tag := "", pkgPath := "", byteOffset := 104 }, { name := "Groups", type := 3, offset := 11, embedded := false, tag := "", pkgPath := "", byteOffset := 112 }], size := 12, bytes := 120, zero := .agg #[.string ⟨#[]⟩, .int .i64 (0), .int .u64 (0), .int .u64 (0), .int .u64 (0), .int .u64 (0), .int .i64 (0), .int .i64 (0), .int .i64 (0), .slice none 0 0, .bool false, .int .i64 (0)] }
theorem tyOk48 : TyOk Tryz.prog 48 ty48 := ⟨Tryz.underlying48, by kernel_rfl⟩
def ty49 : TI := { u := .func #[9] #[4] false, size := 1, bytes := 8, zero := .nilFunc }
theorem tyOk49 : TyOk Tryz.prog 49 ty49 := ⟨Tryz.underlying49, by kernel_rfl⟩
def ty50 : TI := { u := .slice 55, size := 1, bytes := 24, zero := .slice none 0 0 }
theorem tyOk50 : TyOk Tryz.prog 50 ty50 := ⟨Tryz.underlying50, by kernel_rfl⟩
def ty51 : TI := { u := .struct #[{ name := "Kind", type := 3, offset := 0, embedded := false, tag := "", pkgPath := "", byteOffset := 0 }, { name := "Line", type := 3, offset := 1, embedded := false, tag := "", pkgPath := "", byteOffset := 8 }, { name := "Re", type := 9, offset := 2, embedded := false, tag := "", pkgPath := "", byteOffset := 16 }], size := 3, bytes := 32, zero := .agg #[.int .i64 (0), .int .i64 (0), .string ⟨#[]⟩] }
theorem tyOk51 : TyOk Tryz.prog 51 ty51 := ⟨Tryz.underlying51, by kernel_rfl⟩
def ty52 : TI := { u := .struct #[{ name := "Kind", type := 3, offset := 0, embedded := false, tag := "", pkgPath := "", byteOffset := 0 }, { name := "Line", type := 3, offset := 1, embedded := false, tag := "", pkgPath := "", byteOffset := 8 }, { name := "Re", type := 9, offset := 2, embedded := false, tag := "", pkgPath := "", byteOffset := 16 }], size := 3, bytes := 32, zero := .agg #[.int .i64 (0), .int .i64 (0), .string ⟨#[]⟩] }
theorem tyOk52 : TyOk Tryz.prog 52 ty52 := ⟨Tryz.underlying52, by kernel_rfl⟩
def ty53 : TI := { u := .func #[3] #[52] false, size := 1, bytes := 8, zero := .nilFunc }
theorem tyOk53 : TyOk Tryz.prog 53 ty53 := ⟨Tryz.underlying53, by kernel_rfl⟩
def ty54 : TI := { u := .struct #[{ name := "A", type := 52, offset := 0, embedded := false, tag := "", pkgPath := "", byteOffset := 0 }, { name := "B", type := 52, offset := 3, embedded := false, tag := "", pkgPath := "", byteOffset := 32 }, { name := "Not", type := 4, offset := 6, embedded := false, tag := "", pkgPath := "", byteOffset := 64 }], size := 7, bytes := 72, zero := .agg #[.int .i64 (0), .int .i64 (0), .string ⟨#[]⟩, .int .i64 (0), .int .i64 (0), .string ⟨#[]⟩, .bool false] }
theorem tyOk54 : TyOk Tryz.prog 54 ty54 := ⟨Tryz.underlying54, by kernel_rfl⟩
def ty55 : TI := { u := .struct #[{ name := "A", type := 52, offset := 0, embedded := false, tag := "", pkgPath := "", byteOffset := 0 }, { name := "B", type := 52, offset := 3, embedded := false, tag := "", pkgPath := "", byteOffset := 32 }, { name := "Not", type := 4, offset := 6, embedded := false, tag := "", pkgPath := "", byteOffset := 64 }], size := 7, bytes := 72, zero := .agg #[.int .i64 (0), .int .i64 (0), .string ⟨#[]⟩, .int .i64 (0), .int .i64 (0), .string ⟨#[]⟩, .bool false] }
theorem tyOk55 : TyOk Tryz.prog 55 ty55 := ⟨Tryz.underlying55, by kernel_rfl⟩
def ty56 : TI := { u := .pointer 112, size := 1, bytes := 8, zero := .pointer none }
theorem tyOk56 : TyOk Tryz.prog 56 ty56 := ⟨Tryz.underlying56, by kernel_rfl⟩
def ty57 : TI := { u := .pointer 174, size := 1, bytes := 8, zero := .pointer none }
theorem tyOk57 : TyOk Tryz.prog 57 ty57 := ⟨Tryz.underlying57, by kernel_rfl⟩
def ty59 : TI := { u := .func #[50] #[56, 57, 4] false, size := 1, bytes := 8, zero := .nilFunc }
theorem tyOk59 : TyOk Tryz.prog 59 ty59 := ⟨Tryz.underlying59, by kernel_rfl⟩
def ty60 : TI := { u := .func #[] #[31] false, size := 1, bytes := 8, zero := .nilFunc }
theorem tyOk60 : TyOk Tryz.prog 60 ty60 := ⟨Tryz.underlying60, by kernel_rfl⟩
def ty61 : TI := { u := .func #[50] #[4] false, size := 1, bytes := 8, zero := .nilFunc }
theorem tyOk61 : TyOk Tryz.prog 61 ty61 := ⟨Tryz.underlying61, by kernel_rfl⟩
def ty62 : TI := { u := .slice 9, size := 1, bytes := 24, zero := .slice none 0 0 }
theorem tyOk62 : TyOk Tryz.prog 62 ty62 := ⟨Tryz.underlying62, by kernel_rfl⟩
def ty63 : TI := { u := .pointer 114, size := 1, bytes := 8, zero := .pointer none }
theorem tyOk63 : TyOk Tryz.prog 63 ty63 := ⟨Tryz.underlying63, by kernel_rfl⟩
def ty64 : TI := { u := .func #[] #[63] false, size := 1, bytes := 8, zero := .nilFunc }
theorem tyOk64 : TyOk Tryz.prog 64 ty64 := ⟨Tryz.underlying64, by kernel_rfl⟩
def ty65 : TI := { u := .pointer 121, size := 1, bytes := 8, zero := .pointer none }
theorem tyOk65 : TyOk Tryz.prog 65 ty65 := ⟨Tryz.underlying65, by kernel_rfl⟩
def ty67 : TI := { u := .func #[115] #[65, 24] false, size := 1, bytes := 8, zero := .nilFunc }
theorem tyOk67 : TyOk Tryz.prog 67 ty67 := ⟨Tryz.underlying67, by kernel_rfl⟩
def ty68 : TI := { u := .slice 5, size := 1, bytes := 24, zero := .slice none 0 0 }
theorem tyOk68 : TyOk Tryz.prog 68 ty68 := ⟨Tryz.underlying68, by kernel_rfl⟩
def ty70 : TI := { u := .func #[50] #[56, 24] false, size := 1, bytes := 8, zero := .nilFunc }
theorem tyOk70 : TyOk Tryz.prog 70 ty70 := ⟨Tryz.underlying70, by kernel_rfl⟩
def ty71 : TI := { u := .func #[9] #[24] false, size := 1, bytes := 8, zero := .nilFunc }
theorem tyOk71 : TyOk Tryz.prog 71 ty71 := ⟨Tryz.underlying71, by kernel_rfl⟩
def ty72 : TI := { u := .func #[9, 5] #[4] false, size := 1, bytes := 8, zero := .nilFunc }
theorem tyOk72 : TyOk Tryz.prog 72 ty72 := ⟨Tryz.underlying72, by kernel_rfl⟩
def ty73 : TI := { u := .func #[] #[24] false, size := 1, bytes := 8, zero := .nilFunc }
theorem tyOk73 : TyOk Tryz.prog 73 ty73 := ⟨Tryz.underlying73, by kernel_rfl⟩
def ty75 : TI := { u := .func #[] #[9, 4] false, size := 1, bytes := 8, zero := .nilFunc }
theorem tyOk75 : TyOk Tryz.prog 75 ty75 := ⟨Tryz.underlying75, by kernel_rfl⟩
def ty77 : TI := { u := .func #[3, 3, 4, 9] #[4, 4, 24] false, size := 1, bytes := 8, zero := .nilFunc }
theorem tyOk77 : TyOk Tryz.prog 77 ty77 := ⟨Tryz.underlying77, by kernel_rfl⟩
def ty78 : TI := { u := .func #[62, 5, 5] #[4] false, size := 1, bytes := 8, zero := .nilFunc }
theorem tyOk78 : TyOk Tryz.prog 78 ty78 := ⟨Tryz.underlying78, by kernel_rfl⟩
def ty79 : TI := { u := .func #[23, 23] #[4] false, size := 1, bytes := 8, zero := .nilFunc }
theorem tyOk79 : TyOk Tryz.prog 79 ty79 := ⟨Tryz.underlying79, by kernel_rfl⟩
def ty81 : TI := { u := .func #[9] #[46, 33] false, size := 1, bytes := 8, zero := .nilFunc }
theorem tyOk81 : TyOk Tryz.prog 81 ty81 := ⟨Tryz.underlying81, by kernel_rfl⟩
def ty82 : TI := { u := .struct #[{ name := "Positions", type := 3, offset := 0, embedded := false, tag := "", pkgPath := "", byteOffset := 0 }, { name := "Groups", type := 3, offset := 1, embedded := false, tag := "", pkgPath := "", byteOffset := 8 }, { name := "Least", type := 3, offset := 2, embedded := false, tag := "", pkgPath := "", byteOffset := 16 }, { name := "Most", type := 3, offset := 3, embedded := false, tag := "", pkgPath := "", byteOffset := 24 }, { name := "Back", type := 4, offset := 4, embedded := false, tag := "", pkgPath := "", byteOffset := 32 }, { name := "Bol", type := 4, offset := 5, embedded := false, tag := "", pkgPath := "", byteOffset := 33 }, { name := "Eol", type := 4, offset := 6, embedded := false, tag := "", pkgPath := "", byteOffset := 34 }], size := 7, bytes := 40, zero := .agg #[.int .i64 (0), .int .i64 (0), .int .i64 (0), .int .i64 (0), .bool false, .bool false, .bool false] }
theorem tyOk82 : TyOk Tryz.prog 82 ty82 := ⟨Tryz.underlying82, by kernel_rfl⟩
def ty83 : TI := { u := .struct #[{ name := "Positions", type := 3, offset := 0, embedded := false, tag := "", pkgPath := "", byteOffset := 0 }, { name := "Groups", type := 3, offset := 1, embedded := false, tag := "", pkgPath := "", byteOffset := 8 }, { name := "Least", type := 3, offset := 2, embedded := false, tag := "", pkgPath := "", byteOffset := 16 }, { name := "Most", type := 3, offset := 3, embedded := false, tag := "", pkgPath := "", byteOffset := 24 }, { name := "Back", type := 4, offset := 4, embedded := false, tag := "", pkgPath := "", byteOffset := 32 }, { name := "Bol", type := 4, offset := 5, embedded := false, tag := "", pkgPath := "", byteOffset := 33 }, { name := "Eol", type := 4, offset := 6, embedded := false, tag := "", pkgPath := "", byteOffset := 34 }], size := 7, bytes := 40, zero := .agg #[.int .i64 (0), .int .i64 (0), .int .i64 (0), .int .i64 (0), .bool false, .bool false, .bool false] }
theorem tyOk83 : TyOk Tryz.prog 83 ty83 := ⟨Tryz.underlying83, by kernel_rfl⟩
def ty85 : TI := { u := .func #[9] #[83, 33] false, size := 1, bytes := 8, zero := .nilFunc }
theorem tyOk85 : TyOk Tryz.prog 85 ty85 := ⟨Tryz.underlying85, by kernel_rfl⟩
def ty86 : TI := { u := .pointer 90, size := 1, bytes := 8, zero := .pointer none }
theorem tyOk86 : TyOk Tryz.prog 86 ty86 := ⟨Tryz.underlying86, by kernel_rfl⟩
def ty87 : TI := { u := .struct #[{ name := "Subject", type := 9, offset := 0, embedded := false, tag := "", pkgPath := "", byteOffset := 0 }, { name := "Steps", type := 3, offset := 1, embedded := false, tag := "", pkgPath := "", byteOffset := 16 }], size := 2, bytes := 24, zero := .agg #[.string ⟨#[]⟩, .int .i64 (0)] }
theorem tyOk87 : TyOk Tryz.prog 87 ty87 := ⟨Tryz.underlying87, by kernel_rfl⟩
def ty88 : TI := { u := .struct #[{ name := "Subject", type := 9, offset := 0, embedded := false, tag := "", pkgPath := "", byteOffset := 0 }, { name := "Steps", type := 3, offset := 1, embedded := false, tag := "", pkgPath := "", byteOffset := 16 }], size := 2, bytes := 24, zero := .agg #[.string ⟨#[]⟩, .int .i64 (0)] }
theorem tyOk88 : TyOk Tryz.prog 88 ty88 := ⟨Tryz.underlying88, by kernel_rfl⟩
def ty89 : TI := { u := .struct #[{ name := "Walk", type := 88, offset := 0, embedded := true, tag := "", pkgPath := "", byteOffset := 0 }, { name := "spans", type := 23, offset := 2, embedded := false, tag := "", pkgPath := "runnel/setmatch", byteOffset := 24 }], size := 3, bytes := 48, zero := .agg #[.string ⟨#[]⟩, .int .i64 (0), .slice none 0 0] }
theorem tyOk89 : TyOk Tryz.prog 89 ty89 := ⟨Tryz.underlying89, by kernel_rfl⟩
def ty90 : TI := { u := .struct #[{ name := "Walk", type := 88, offset := 0, embedded := true, tag := "", pkgPath := "", byteOffset := 0 }, { name := "spans", type := 23, offset := 2, embedded := false, tag := "", pkgPath := "runnel/setmatch", byteOffset := 24 }], size := 3, bytes := 48, zero := .agg #[.string ⟨#[]⟩, .int .i64 (0), .slice none 0 0] }
theorem tyOk90 : TyOk Tryz.prog 90 ty90 := ⟨Tryz.underlying90, by kernel_rfl⟩
def ty92 : TI := { u := .func #[93, 3] #[29, 4] false, size := 1, bytes := 8, zero := .nilFunc }
theorem tyOk92 : TyOk Tryz.prog 92 ty92 := ⟨Tryz.underlying92, by kernel_rfl⟩
def ty93 : TI := { u := .pointer 165, size := 1, bytes := 8, zero := .pointer none }
theorem tyOk93 : TyOk Tryz.prog 93 ty93 := ⟨Tryz.underlying93, by kernel_rfl⟩
def ty94 : TI := { u := .func #[44] #[93] false, size := 1, bytes := 8, zero := .nilFunc }
theorem tyOk94 : TyOk Tryz.prog 94 ty94 := ⟨Tryz.underlying94, by kernel_rfl⟩
def ty95 : TI := { u := .func #[96, 3, 3] #[] false, size := 1, bytes := 8, zero := .nilFunc }
theorem tyOk95 : TyOk Tryz.prog 95 ty95 := ⟨Tryz.underlying95, by kernel_rfl⟩
def ty96 : TI := { u := .pointer 46, size := 1, bytes := 8, zero := .pointer none }
theorem tyOk96 : TyOk Tryz.prog 96 ty96 := ⟨Tryz.underlying96, by kernel_rfl⟩
def ty98 : TI := { u := .func #[9] #[83, 3, 3] false, size := 1, bytes := 8, zero := .nilFunc }
theorem tyOk98 : TyOk Tryz.prog 98 ty98 := ⟨Tryz.underlying98, by kernel_rfl⟩
def ty99 : TI := { u := .func #[9, 3] #[23, 4, 24] false, size := 1, bytes := 8, zero := .nilFunc }
theorem tyOk99 : TyOk Tryz.prog 99 ty99 := ⟨Tryz.underlying99, by kernel_rfl⟩
def ty100 : TI := { u := .struct #[{ name := "text", type := 9, offset := 0, embedded := false, tag := "", pkgPath := "runnel/matcher", byteOffset := 0 }, { name := "known", type := 83, offset := 1, embedded := false, tag := "", pkgPath := "runnel/matcher", byteOffset := 16 }, { name := "steps", type := 3, offset := 8, embedded := false, tag := "", pkgPath := "runnel/matcher", byteOffset := 56 }, { name := "match", type := 99, offset := 9, embedded := false, tag := "", pkgPath := "runnel/matcher", byteOffset := 64 }], size := 10, bytes := 72, zero := .agg #[.string ⟨#[]⟩, .int .i64 (0), .int .i64 (0), .int .i64 (0), .int .i64 (0), .bool false, .bool false, .bool false, .int .i64 (0), .nilFunc] }
theorem tyOk100 : TyOk Tryz.prog 100 ty100 := ⟨Tryz.underlying100, by kernel_rfl⟩
def ty101 : TI := { u := .struct #[{ name := "text", type := 9, offset := 0, embedded := false, tag := "", pkgPath := "runnel/matcher", byteOffset := 0 }, { name := "known", type := 83, offset := 1, embedded := false, tag := "", pkgPath := "runnel/matcher", byteOffset := 16 }, { name := "steps", type := 3, offset := 8, embedded := false, tag := "", pkgPath := "runnel/matcher", byteOffset := 56 }, { name := "match", type := 99, offset := 9, embedded := false, tag := "", pkgPath := "runnel/matcher", byteOffset := 64 }], size := 10, bytes := 72, zero := .agg #[.string ⟨#[]⟩, .int .i64 (0), .int .i64 (0), .int .i64 (0), .int .i64 (0), .bool false, .bool false, .bool false, .int .i64 (0), .nilFunc] }
theorem tyOk101 : TyOk Tryz.prog 101 ty101 := ⟨Tryz.underlying101, by kernel_rfl⟩
def ty103 : TI := { u := .func #[9] #[46, 3, 3] false, size := 1, bytes := 8, zero := .nilFunc }
theorem tyOk103 : TyOk Tryz.prog 103 ty103 := ⟨Tryz.underlying103, by kernel_rfl⟩
def ty104 : TI := { u := .func #[46, 3] #[4] false, size := 1, bytes := 8, zero := .nilFunc }
theorem tyOk104 : TyOk Tryz.prog 104 ty104 := ⟨Tryz.underlying104, by kernel_rfl⟩
def ty105 : TI := { u := .func #[46] #[3] false, size := 1, bytes := 8, zero := .nilFunc }
theorem tyOk105 : TyOk Tryz.prog 105 ty105 := ⟨Tryz.underlying105, by kernel_rfl⟩
def ty108 : TI := { u := .func #[50] #[57, 3] false, size := 1, bytes := 8, zero := .nilFunc }
theorem tyOk108 : TyOk Tryz.prog 108 ty108 := ⟨Tryz.underlying108, by kernel_rfl⟩
def ty109 : TI := { u := .func #[9] #[52] false, size := 1, bytes := 8, zero := .nilFunc }
theorem tyOk109 : TyOk Tryz.prog 109 ty109 := ⟨Tryz.underlying109, by kernel_rfl⟩
def ty110 : TI := { u := .slice 134, size := 1, bytes := 24, zero := .slice none 0 0 }
theorem tyOk110 : TyOk Tryz.prog 110 ty110 := ⟨Tryz.underlying110, by kernel_rfl⟩
def ty111 : TI := { u := .struct #[{ name := "rows", type := 110, offset := 0, embedded := false, tag := "", pkgPath := "runnel/pick", byteOffset := 0 }, { name := "last", type := 31, offset := 1, embedded := false, tag := "", pkgPath := "runnel/pick", byteOffset := 24 }], size := 2, bytes := 32, zero := .agg #[.slice none 0 0, .pointer none] }
theorem tyOk111 : TyOk Tryz.prog 111 ty111 := ⟨Tryz.underlying111, by kernel_rfl⟩
def ty112 : TI := { u := .struct #[{ name := "rows", type := 110, offset := 0, embedded := false, tag := "", pkgPath := "runnel/pick", byteOffset := 0 }, { name := "last", type := 31, offset := 1, embedded := false, tag := "", pkgPath := "runnel/pick", byteOffset := 24 }], size := 2, bytes := 32, zero := .agg #[.slice none 0 0, .pointer none] }
theorem tyOk112 : TyOk Tryz.prog 112 ty112 := ⟨Tryz.underlying112, by kernel_rfl⟩
def ty113 : TI := { u := .struct #[{ name := "lines", type := 62, offset := 0, embedded := false, tag := "", pkgPath := "runnel/input", byteOffset := 0 }, { name := "bytes", type := 3, offset := 1, embedded := false, tag := "", pkgPath := "runnel/input", byteOffset := 24 }, { name := "taken", type := 3, offset := 2, embedded := false, tag := "", pkgPath := "runnel/input", byteOffset := 32 }, { name := "closed", type := 4, offset := 3, embedded := false, tag := "", pkgPath := "runnel/input", byteOffset := 40 }], size := 4, bytes := 48, zero := .agg #[.slice none 0 0, .int .i64 (0), .int .i64 (0), .bool false] }
theorem tyOk113 : TyOk Tryz.prog 113 ty113 := ⟨Tryz.underlying113, by kernel_rfl⟩
def ty114 : TI := { u := .struct #[{ name := "lines", type := 62, offset := 0, embedded := false, tag := "", pkgPath := "runnel/input", byteOffset := 0 }, { name := "bytes", type := 3, offset := 1, embedded := false, tag := "", pkgPath := "runnel/input", byteOffset := 24 }, { name := "taken", type := 3, offset := 2, embedded := false, tag := "", pkgPath := "runnel/input", byteOffset := 32 }, { name := "closed", type := 4, offset := 3, embedded := false, tag := "", pkgPath := "runnel/input", byteOffset := 40 }], size := 4, bytes := 48, zero := .agg #[.slice none 0 0, .int .i64 (0), .int .i64 (0), .bool false] }
theorem tyOk114 : TyOk Tryz.prog 114 ty114 := ⟨Tryz.underlying114, by kernel_rfl⟩
def ty115 : TI := { u := .slice 123, size := 1, bytes := 24, zero := .slice none 0 0 }
theorem tyOk115 : TyOk Tryz.prog 115 ty115 := ⟨Tryz.underlying115, by kernel_rfl⟩
def ty116 : TI := { u := .map 9 124, size := 1, bytes := 8, zero := .map none }
theorem tyOk116 : TyOk Tryz.prog 116 ty116 := ⟨Tryz.underlying116, by kernel_rfl⟩
def ty117 : TI := { u := .pointer 119, size := 1, bytes := 8, zero := .pointer none }
theorem tyOk117 : TyOk Tryz.prog 117 ty117 := ⟨Tryz.underlying117, by kernel_rfl⟩
def ty118 : TI := { u := .struct #[{ name := "addr", type := 117, offset := 0, embedded := false, tag := "", pkgPath := "strings", byteOffset := 0 }, { name := "buf", type := 68, offset := 1, embedded := false, tag := "", pkgPath := "strings", byteOffset := 8 }], size := 2, bytes := 32, zero := .agg #[.pointer none, .slice none 0 0] }
theorem tyOk118 : TyOk Tryz.prog 118 ty118 := ⟨Tryz.underlying118, by kernel_rfl⟩
def ty119 : TI := { u := .struct #[{ name := "addr", type := 117, offset := 0, embedded := false, tag := "", pkgPath := "strings", byteOffset := 0 }, { name := "buf", type := 68, offset := 1, embedded := false, tag := "", pkgPath := "strings", byteOffset := 8 }], size := 2, bytes := 32, zero := .agg #[.pointer none, .slice none 0 0] }
theorem tyOk119 : TyOk Tryz.prog 119 ty119 := ⟨Tryz.underlying119, by kernel_rfl⟩
def ty120 : TI := { u := .struct #[{ name := "files", type := 116, offset := 0, embedded := false, tag := "", pkgPath := "runnel/store", byteOffset := 0 }, { name := "out", type := 119, offset := 1, embedded := false, tag := "", pkgPath := "runnel/store", byteOffset := 8 }, { name := "written", type := 3, offset := 3, embedded := false, tag := "", pkgPath := "runnel/store", byteOffset := 40 }], size := 4, bytes := 48, zero := .agg #[.map none, .pointer none, .slice none 0 0, .int .i64 (0)] }
theorem tyOk120 : TyOk Tryz.prog 120 ty120 := ⟨Tryz.underlying120, by kernel_rfl⟩
def ty121 : TI := { u := .struct #[{ name := "files", type := 116, offset := 0, embedded := false, tag := "", pkgPath := "runnel/store", byteOffset := 0 }, { name := "out", type := 119, offset := 1, embedded := false, tag := "", pkgPath := "runnel/store", byteOffset := 8 }, { name := "written", type := 3, offset := 3, embedded := false, tag := "", pkgPath := "runnel/store", byteOffset := 40 }], size := 4, bytes := 48, zero := .agg #[.map none, .pointer none, .slice none 0 0, .int .i64 (0)] }
theorem tyOk121 : TyOk Tryz.prog 121 ty121 := ⟨Tryz.underlying121, by kernel_rfl⟩
def ty122 : TI := { u := .struct #[{ name := "Name", type := 9, offset := 0, embedded := false, tag := "", pkgPath := "", byteOffset := 0 }, { name := "Data", type := 9, offset := 1, embedded := false, tag := "", pkgPath := "", byteOffset := 16 }], size := 2, bytes := 32, zero := .agg #[.string ⟨#[]⟩, .string ⟨#[]⟩] }
theorem tyOk122 : TyOk Tryz.prog 122 ty122 := ⟨Tryz.underlying122, by kernel_rfl⟩
def ty123 : TI := { u := .struct #[{ name := "Name", type := 9, offset := 0, embedded := false, tag := "", pkgPath := "", byteOffset := 0 }, { name := "Data", type := 9, offset := 1, embedded := false, tag := "", pkgPath := "", byteOffset := 16 }], size := 2, bytes := 32, zero := .agg #[.string ⟨#[]⟩, .string ⟨#[]⟩] }
theorem tyOk123 : TyOk Tryz.prog 123 ty123 := ⟨Tryz.underlying123, by kernel_rfl⟩
def ty124 : TI := { u := .pointer 126, size := 1, bytes := 8, zero := .pointer none }
theorem tyOk124 : TyOk Tryz.prog 124 ty124 := ⟨Tryz.underlying124, by kernel_rfl⟩
def ty125 : TI := { u := .struct #[{ name := "data", type := 119, offset := 0, embedded := false, tag := "", pkgPath := "runnel/store", byteOffset := 0 }, { name := "open", type := 4, offset := 2, embedded := false, tag := "", pkgPath := "runnel/store", byteOffset := 32 }], size := 3, bytes := 40, zero := .agg #[.pointer none, .slice none 0 0, .bool false] }
theorem tyOk125 : TyOk Tryz.prog 125 ty125 := ⟨Tryz.underlying125, by kernel_rfl⟩
def ty126 : TI := { u := .struct #[{ name := "data", type := 119, offset := 0, embedded := false, tag := "", pkgPath := "runnel/store", byteOffset := 0 }, { name := "open", type := 4, offset := 2, embedded := false, tag := "", pkgPath := "runnel/store", byteOffset := 32 }], size := 3, bytes := 40, zero := .agg #[.pointer none, .slice none 0 0, .bool false] }
theorem tyOk126 : TyOk Tryz.prog 126 ty126 := ⟨Tryz.underlying126, by kernel_rfl⟩
def ty130 : TI := { u := .func #[9] #[3, 128] false, size := 1, bytes := 8, zero := .nilFunc }
theorem tyOk130 : TyOk Tryz.prog 130 ty130 := ⟨Tryz.underlying130, by kernel_rfl⟩
def ty132 : TI := { u := .func #[52] #[31, 24] false, size := 1, bytes := 8, zero := .nilFunc }
theorem tyOk132 : TyOk Tryz.prog 132 ty132 := ⟨Tryz.underlying132, by kernel_rfl⟩
def ty133 : TI := { u := .struct #[{ name := "row", type := 55, offset := 0, embedded := false, tag := "", pkgPath := "runnel/pick", byteOffset := 0 }, { name := "a", type := 31, offset := 7, embedded := false, tag := "", pkgPath := "runnel/pick", byteOffset := 72 }, { name := "b", type := 31, offset := 8, embedded := false, tag := "", pkgPath := "runnel/pick", byteOffset := 80 }, { name := "on", type := 4, offset := 9, embedded := false, tag := "", pkgPath := "runnel/pick", byteOffset := 88 }], size := 10, bytes := 96, zero := .agg #[.int .i64 (0), .int .i64 (0), .string ⟨#[]⟩, .int .i64 (0), .int .i64 (0), .string ⟨#[]⟩, .bool false, .pointer none, .pointer none, .bool false] }
theorem tyOk133 : TyOk Tryz.prog 133 ty133 := ⟨Tryz.underlying133, by kernel_rfl⟩
def ty134 : TI := { u := .struct #[{ name := "row", type := 55, offset := 0, embedded := false, tag := "", pkgPath := "runnel/pick", byteOffset := 0 }, { name := "a", type := 31, offset := 7, embedded := false, tag := "", pkgPath := "runnel/pick", byteOffset := 72 }, { name := "b", type := 31, offset := 8, embedded := false, tag := "", pkgPath := "runnel/pick", byteOffset := 80 }, { name := "on", type := 4, offset := 9, embedded := false, tag := "", pkgPath := "runnel/pick", byteOffset := 88 }], size := 10, bytes := 96, zero := .agg #[.int .i64 (0), .int .i64 (0), .string ⟨#[]⟩, .int .i64 (0), .int .i64 (0), .string ⟨#[]⟩, .bool false, .pointer none, .pointer none, .bool false] }
theorem tyOk134 : TyOk Tryz.prog 134 ty134 := ⟨Tryz.underlying134, by kernel_rfl⟩
def ty135 : TI := { u := .func #[9, 5] #[3] false, size := 1, bytes := 8, zero := .nilFunc }
theorem tyOk135 : TyOk Tryz.prog 135 ty135 := ⟨Tryz.underlying135, by kernel_rfl⟩
def ty136 : TI := { u := .pointer 134, size := 1, bytes := 8, zero := .pointer none }
theorem tyOk136 : TyOk Tryz.prog 136 ty136 := ⟨Tryz.underlying136, by kernel_rfl⟩
def ty137 : TI := { u := .struct #[{ name := "line", type := 3, offset := 0, embedded := false, tag := "", pkgPath := "runnel/pick", byteOffset := 0 }, { name := "last", type := 4, offset := 1, embedded := false, tag := "", pkgPath := "runnel/pick", byteOffset := 8 }, { name := "space", type := 9, offset := 2, embedded := false, tag := "", pkgPath := "runnel/pick", byteOffset := 16 }], size := 3, bytes := 32, zero := .agg #[.int .i64 (0), .bool false, .string ⟨#[]⟩] }
theorem tyOk137 : TyOk Tryz.prog 137 ty137 := ⟨Tryz.underlying137, by kernel_rfl⟩
def ty138 : TI := { u := .struct #[{ name := "line", type := 3, offset := 0, embedded := false, tag := "", pkgPath := "runnel/pick", byteOffset := 0 }, { name := "last", type := 4, offset := 1, embedded := false, tag := "", pkgPath := "runnel/pick", byteOffset := 8 }, { name := "space", type := 9, offset := 2, embedded := false, tag := "", pkgPath := "runnel/pick", byteOffset := 16 }], size := 3, bytes := 32, zero := .agg #[.int .i64 (0), .bool false, .string ⟨#[]⟩] }
theorem tyOk138 : TyOk Tryz.prog 138 ty138 := ⟨Tryz.underlying138, by kernel_rfl⟩
def ty139 : TI := { u := .func #[136, 138] #[4, 4, 24] false, size := 1, bytes := 8, zero := .nilFunc }
theorem tyOk139 : TyOk Tryz.prog 139 ty139 := ⟨Tryz.underlying139, by kernel_rfl⟩
def ty141 : TI := { u := .func #[52, 31, 138] #[4, 24] false, size := 1, bytes := 8, zero := .nilFunc }
theorem tyOk141 : TyOk Tryz.prog 141 ty141 := ⟨Tryz.underlying141, by kernel_rfl⟩
def ty142 : TI := { u := .func #[52, 138] #[4] false, size := 1, bytes := 8, zero := .nilFunc }
theorem tyOk142 : TyOk Tryz.prog 142 ty142 := ⟨Tryz.underlying142, by kernel_rfl⟩
def ty143 : TI := { u := .func #[3] #[24] false, size := 1, bytes := 8, zero := .nilFunc }
theorem tyOk143 : TyOk Tryz.prog 143 ty143 := ⟨Tryz.underlying143, by kernel_rfl⟩
def ty144 : TI := { u := .pointer 151, size := 1, bytes := 8, zero := .pointer none }
theorem tyOk144 : TyOk Tryz.prog 144 ty144 := ⟨Tryz.underlying144, by kernel_rfl⟩
def ty145 : TI := { u := .slice 3, size := 1, bytes := 24, zero := .slice none 0 0 }
theorem tyOk145 : TyOk Tryz.prog 145 ty145 := ⟨Tryz.underlying145, by kernel_rfl⟩
def ty146 : TI := { u := .struct #[{ name := "kids", type := 44, offset := 0, embedded := false, tag := "", pkgPath := "runnel/bre", byteOffset := 0 }, { name := "sizes", type := 145, offset := 1, embedded := false, tag := "", pkgPath := "runnel/bre", byteOffset := 24 }, { name := "group", type := 3, offset := 2, embedded := false, tag := "", pkgPath := "runnel/bre", byteOffset := 48 }, { name := "at", type := 3, offset := 3, embedded := false, tag := "", pkgPath := "runnel/bre", byteOffset := 56 }], size := 4, bytes := 64, zero := .agg #[.slice none 0 0, .slice none 0 0, .int .i64 (0), .int .i64 (0)] }
theorem tyOk146 : TyOk Tryz.prog 146 ty146 := ⟨Tryz.underlying146, by kernel_rfl⟩
def ty147 : TI := { u := .struct #[{ name := "kids", type := 44, offset := 0, embedded := false, tag := "", pkgPath := "runnel/bre", byteOffset := 0 }, { name := "sizes", type := 145, offset := 1, embedded := false, tag := "", pkgPath := "runnel/bre", byteOffset := 24 }, { name := "group", type := 3, offset := 2, embedded := false, tag := "", pkgPath := "runnel/bre", byteOffset := 48 }, { name := "at", type := 3, offset := 3, embedded := false, tag := "", pkgPath := "runnel/bre", byteOffset := 56 }], size := 4, bytes := 64, zero := .agg #[.slice none 0 0, .slice none 0 0, .int .i64 (0), .int .i64 (0)] }
theorem tyOk147 : TyOk Tryz.prog 147 ty147 := ⟨Tryz.underlying147, by kernel_rfl⟩
def ty148 : TI := { u := .slice 147, size := 1, bytes := 24, zero := .slice none 0 0 }
theorem tyOk148 : TyOk Tryz.prog 148 ty148 := ⟨Tryz.underlying148, by kernel_rfl⟩
def ty149 : TI := { u := .array 10 4, size := 10, bytes := 10, zero := .agg #[.bool false, .bool false, .bool false, .bool false, .bool false, .bool false, .bool false, .bool false, .bool false, .bool false] }
theorem tyOk149 : TyOk Tryz.prog 149 ty149 := ⟨Tryz.underlying149, by kernel_rfl⟩
def ty150 : TI := { u := .struct #[{ name := "frames", type := 148, offset := 0, embedded := false, tag := "", pkgPath := "runnel/bre", byteOffset := 0 }, { name := "groups", type := 3, offset := 1, embedded := false, tag := "", pkgPath := "runnel/bre", byteOffset := 24 }, { name := "shut", type := 149, offset := 2, embedded := false, tag := "", pkgPath := "runnel/bre", byteOffset := 32 }, { name := "size", type := 3, offset := 12, embedded := false, tag := "", pkgPath := "runnel/bre", byteOffset := 48 }], size := 13, bytes := 56, zero := .agg #[.slice none 0 0, .int .i64 (0), .bool false, .bool false, .bool false, .bool false, .bool false, .bool false, .bool false, .bool false, .bool false, .bool false, .int .i64 (0)] }
theorem tyOk150 : TyOk Tryz.prog 150 ty150 := ⟨Tryz.underlying150, by kernel_rfl⟩
def ty151 : TI := { u := .struct #[{ name := "frames", type := 148, offset := 0, embedded := false, tag := "", pkgPath := "runnel/bre", byteOffset := 0 }, { name := "groups", type := 3, offset := 1, embedded := false, tag := "", pkgPath := "runnel/bre", byteOffset := 24 }, { name := "shut", type := 149, offset := 2, embedded := false, tag := "", pkgPath := "runnel/bre", byteOffset := 32 }, { name := "size", type := 3, offset := 12, embedded := false, tag := "", pkgPath := "runnel/bre", byteOffset := 48 }], size := 13, bytes := 56, zero := .agg #[.slice none 0 0, .int .i64 (0), .bool false, .bool false, .bool false, .bool false, .bool false, .bool false, .bool false, .bool false, .bool false, .bool false, .int .i64 (0)] }
theorem tyOk151 : TyOk Tryz.prog 151 ty151 := ⟨Tryz.underlying151, by kernel_rfl⟩
def ty152 : TI := { u := .func #[178] #[] false, size := 1, bytes := 8, zero := .nilFunc }
theorem tyOk152 : TyOk Tryz.prog 152 ty152 := ⟨Tryz.underlying152, by kernel_rfl⟩
def ty153 : TI := { u := .func #[178] #[] false, size := 1, bytes := 8, zero := .nilFunc }
theorem tyOk153 : TyOk Tryz.prog 153 ty153 := ⟨Tryz.underlying153, by kernel_rfl⟩
def ty154 : TI := { u := .func #[9] #[153] false, size := 1, bytes := 8, zero := .nilFunc }
theorem tyOk154 : TyOk Tryz.prog 154 ty154 := ⟨Tryz.underlying154, by kernel_rfl⟩
def ty155 : TI := { u := .struct #[{ name := "kind", type := 3, offset := 0, embedded := false, tag := "", pkgPath := "runnel/bre", byteOffset := 0 }, { name := "at", type := 3, offset := 1, embedded := false, tag := "", pkgPath := "runnel/bre", byteOffset := 8 }, { name := "set", type := 43, offset := 2, embedded := false, tag := "", pkgPath := "runnel/bre", byteOffset := 16 }, { name := "lo", type := 3, offset := 6, embedded := false, tag := "", pkgPath := "runnel/bre", byteOffset := 48 }, { name := "hi", type := 3, offset := 7, embedded := false, tag := "", pkgPath := "runnel/bre", byteOffset := 56 }, { name := "e", type := 24, offset := 8, embedded := false, tag := "", pkgPath := "runnel/bre", byteOffset := 64 }], size := 9, bytes := 72, zero := .agg #[.int .i64 (0), .int .i64 (0), .int .u64 (0), .int .u64 (0), .int .u64 (0), .int .u64 (0), .int .i64 (0), .int .i64 (0), .int .i64 (0)] }
theorem tyOk155 : TyOk Tryz.prog 155 ty155 := ⟨Tryz.underlying155, by kernel_rfl⟩
def ty156 : TI := { u := .struct #[{ name := "kind", type := 3, offset := 0, embedded := false, tag := "", pkgPath := "runnel/bre", byteOffset := 0 }, { name := "at", type := 3, offset := 1, embedded := false, tag := "", pkgPath := "runnel/bre", byteOffset := 8 }, { name := "set", type := 43, offset := 2, embedded := false, tag := "", pkgPath := "runnel/bre", byteOffset := 16 }, { name := "lo", type := 3, offset := 6, embedded := false, tag := "", pkgPath := "runnel/bre", byteOffset := 48 }, { name := "hi", type := 3, offset := 7, embedded := false, tag := "", pkgPath := "runnel/bre", byteOffset := 56 }, { name := "e", type := 24, offset := 8, embedded := false, tag := "", pkgPath := "runnel/bre", byteOffset := 64 }], size := 9, bytes := 72, zero := .agg #[.int .i64 (0), .int .i64 (0), .int .u64 (0), .int .u64 (0), .int .u64 (0), .int .u64 (0), .int .i64 (0), .int .i64 (0), .int .i64 (0)] }
theorem tyOk156 : TyOk Tryz.prog 156 ty156 := ⟨Tryz.underlying156, by kernel_rfl⟩
def ty157 : TI := { u := .func #[156] #[24] false, size := 1, bytes := 8, zero := .nilFunc }
theorem tyOk157 : TyOk Tryz.prog 157 ty157 := ⟨Tryz.underlying157, by kernel_rfl⟩
def ty158 : TI := { u := .pointer 147, size := 1, bytes := 8, zero := .pointer none }
theorem tyOk158 : TyOk Tryz.prog 158 ty158 := ⟨Tryz.underlying158, by kernel_rfl⟩
def ty159 : TI := { u := .func #[] #[158] false, size := 1, bytes := 8, zero := .nilFunc }
theorem tyOk159 : TyOk Tryz.prog 159 ty159 := ⟨Tryz.underlying159, by kernel_rfl⟩
def ty160 : TI := { u := .func #[46] #[83] false, size := 1, bytes := 8, zero := .nilFunc }
theorem tyOk160 : TyOk Tryz.prog 160 ty160 := ⟨Tryz.underlying160, by kernel_rfl⟩
def ty161 : TI := { u := .slice 4, size := 1, bytes := 24, zero := .slice none 0 0 }
theorem tyOk161 : TyOk Tryz.prog 161 ty161 := ⟨Tryz.underlying161, by kernel_rfl⟩
def ty162 : TI := { u := .func #[93, 3] #[161] false, size := 1, bytes := 8, zero := .nilFunc }
theorem tyOk162 : TyOk Tryz.prog 162 ty162 := ⟨Tryz.underlying162, by kernel_rfl⟩
def ty163 : TI := { u := .slice 219, size := 1, bytes := 24, zero := .slice none 0 0 }
theorem tyOk163 : TyOk Tryz.prog 163 ty163 := ⟨Tryz.underlying163, by kernel_rfl⟩
def ty164 : TI := { u := .struct #[{ name := "out", type := 163, offset := 0, embedded := false, tag := "", pkgPath := "runnel/nfa", byteOffset := 0 }, { name := "back", type := 163, offset := 1, embedded := false, tag := "", pkgPath := "runnel/nfa", byteOffset := 24 }, { name := "end", type := 3, offset := 2, embedded := false, tag := "", pkgPath := "runnel/nfa", byteOffset := 48 }], size := 3, bytes := 56, zero := .agg #[.slice none 0 0, .slice none 0 0, .int .i64 (0)] }
theorem tyOk164 : TyOk Tryz.prog 164 ty164 := ⟨Tryz.underlying164, by kernel_rfl⟩
def ty165 : TI := { u := .struct #[{ name := "out", type := 163, offset := 0, embedded := false, tag := "", pkgPath := "runnel/nfa", byteOffset := 0 }, { name := "back", type := 163, offset := 1, embedded := false, tag := "", pkgPath := "runnel/nfa", byteOffset := 24 }, { name := "end", type := 3, offset := 2, embedded := false, tag := "", pkgPath := "runnel/nfa", byteOffset := 48 }], size := 3, bytes := 56, zero := .agg #[.slice none 0 0, .slice none 0 0, .int .i64 (0)] }
theorem tyOk165 : TyOk Tryz.prog 165 ty165 := ⟨Tryz.underlying165, by kernel_rfl⟩
def ty166 : TI := { u := .func #[96, 3] #[3] false, size := 1, bytes := 8, zero := .nilFunc }
theorem tyOk166 : TyOk Tryz.prog 166 ty166 := ⟨Tryz.underlying166, by kernel_rfl⟩
def ty167 : TI := { u := .func #[44, 3, 3] #[] false, size := 1, bytes := 8, zero := .nilFunc }
theorem tyOk167 : TyOk Tryz.prog 167 ty167 := ⟨Tryz.underlying167, by kernel_rfl⟩
def ty168 : TI := { u := .func #[9, 9, 3] #[23, 4, 24] false, size := 1, bytes := 8, zero := .nilFunc }
theorem tyOk168 : TyOk Tryz.prog 168 ty168 := ⟨Tryz.underlying168, by kernel_rfl⟩
def ty169 : TI := { u := .pointer 171, size := 1, bytes := 8, zero := .pointer none }
theorem tyOk169 : TyOk Tryz.prog 169 ty169 := ⟨Tryz.underlying169, by kernel_rfl⟩
def ty170 : TI := { u := .struct #[{ name := "Text", type := 9, offset := 0, embedded := false, tag := "", pkgPath := "", byteOffset := 0 }, { name := "At", type := 3, offset := 1, embedded := false, tag := "", pkgPath := "", byteOffset := 16 }, { name := "E", type := 3, offset := 2, embedded := false, tag := "", pkgPath := "", byteOffset := 24 }, { name := "Place", type := 3, offset := 3, embedded := false, tag := "", pkgPath := "", byteOffset := 32 }, { name := "Groups", type := 3, offset := 4, embedded := false, tag := "", pkgPath := "", byteOffset := 40 }, { name := "Closed", type := 149, offset := 5, embedded := false, tag := "", pkgPath := "", byteOffset := 48 }, { name := "Size", type := 3, offset := 15, embedded := false, tag := "", pkgPath := "", byteOffset := 64 }], size := 16, bytes := 72, zero := .agg #[.string ⟨#[]⟩, .int .i64 (0), .int .i64 (0), .int .i64 (0), .int .i64 (0), .bool false, .bool false, .bool false, .bool false, .bool false, .bool false, .bool false, .bool false, .bool false, .bool false, .int .i64 (0)] }
theorem tyOk170 : TyOk Tryz.prog 170 ty170 := ⟨Tryz.underlying170, by kernel_rfl⟩
def ty171 : TI := { u := .struct #[{ name := "Text", type := 9, offset := 0, embedded := false, tag := "", pkgPath := "", byteOffset := 0 }, { name := "At", type := 3, offset := 1, embedded := false, tag := "", pkgPath := "", byteOffset := 16 }, { name := "E", type := 3, offset := 2, embedded := false, tag := "", pkgPath := "", byteOffset := 24 }, { name := "Place", type := 3, offset := 3, embedded := false, tag := "", pkgPath := "", byteOffset := 32 }, { name := "Groups", type := 3, offset := 4, embedded := false, tag := "", pkgPath := "", byteOffset := 40 }, { name := "Closed", type := 149, offset := 5, embedded := false, tag := "", pkgPath := "", byteOffset := 48 }, { name := "Size", type := 3, offset := 15, embedded := false, tag := "", pkgPath := "", byteOffset := 64 }], size := 16, bytes := 72, zero := .agg #[.string ⟨#[]⟩, .int .i64 (0), .int .i64 (0), .int .i64 (0), .int .i64 (0), .bool false, .bool false, .bool false, .bool false, .bool false, .bool false, .bool false, .bool false, .bool false, .bool false, .int .i64 (0)] }
theorem tyOk171 : TyOk Tryz.prog 171 ty171 := ⟨Tryz.underlying171, by kernel_rfl⟩
def ty172 : TI := { u := .func #[4, 3] #[46] false, size := 1, bytes := 8, zero := .nilFunc }
theorem tyOk172 : TyOk Tryz.prog 172 ty172 := ⟨Tryz.underlying172, by kernel_rfl⟩
def ty173 : TI := { u := .struct #[{ name := "Rows", type := 50, offset := 0, embedded := false, tag := "", pkgPath := "", byteOffset := 0 }, { name := "On", type := 161, offset := 1, embedded := false, tag := "", pkgPath := "", byteOffset := 24 }, { name := "Last", type := 36, offset := 2, embedded := false, tag := "", pkgPath := "", byteOffset := 48 }], size := 3, bytes := 56, zero := .agg #[.slice none 0 0, .slice none 0 0, .pointer none] }
theorem tyOk173 : TyOk Tryz.prog 173 ty173 := ⟨Tryz.underlying173, by kernel_rfl⟩
def ty174 : TI := { u := .struct #[{ name := "Rows", type := 50, offset := 0, embedded := false, tag := "", pkgPath := "", byteOffset := 0 }, { name := "On", type := 161, offset := 1, embedded := false, tag := "", pkgPath := "", byteOffset := 24 }, { name := "Last", type := 36, offset := 2, embedded := false, tag := "", pkgPath := "", byteOffset := 48 }], size := 3, bytes := 56, zero := .agg #[.slice none 0 0, .slice none 0 0, .pointer none] }
theorem tyOk174 : TyOk Tryz.prog 174 ty174 := ⟨Tryz.underlying174, by kernel_rfl⟩
def ty175 : TI := { u := .func #[52] #[3] false, size := 1, bytes := 8, zero := .nilFunc }
theorem tyOk175 : TyOk Tryz.prog 175 ty175 := ⟨Tryz.underlying175, by kernel_rfl⟩
def ty176 : TI := { u := .func #[31] #[] false, size := 1, bytes := 8, zero := .nilFunc }
theorem tyOk176 : TyOk Tryz.prog 176 ty176 := ⟨Tryz.underlying176, by kernel_rfl⟩
def ty177 : TI := { u := .pointer 5, size := 1, bytes := 8, zero := .pointer none }
theorem tyOk177 : TyOk Tryz.prog 177 ty177 := ⟨Tryz.underlying177, by kernel_rfl⟩
def ty178 : TI := { u := .func #[156] #[4] false, size := 1, bytes := 8, zero := .nilFunc }
theorem tyOk178 : TyOk Tryz.prog 178 ty178 := ⟨Tryz.underlying178, by kernel_rfl⟩
def ty180 : TI := { u := .func #[9, 3, 4, 4] #[156, 3] false, size := 1, bytes := 8, zero := .nilFunc }
theorem tyOk180 : TyOk Tryz.prog 180 ty180 := ⟨Tryz.underlying180, by kernel_rfl⟩
def ty181 : TI := { u := .func #[46, 3] #[24] false, size := 1, bytes := 8, zero := .nilFunc }
theorem tyOk181 : TyOk Tryz.prog 181 ty181 := ⟨Tryz.underlying181, by kernel_rfl⟩
def ty182 : TI := { u := .func #[3, 3] #[24] false, size := 1, bytes := 8, zero := .nilFunc }
theorem tyOk182 : TyOk Tryz.prog 182 ty182 := ⟨Tryz.underlying182, by kernel_rfl⟩
def ty183 : TI := { u := .func #[3, 3] #[3] false, size := 1, bytes := 8, zero := .nilFunc }
theorem tyOk183 : TyOk Tryz.prog 183 ty183 := ⟨Tryz.underlying183, by kernel_rfl⟩
def ty184 : TI := { u := .pointer 88, size := 1, bytes := 8, zero := .pointer none }
theorem tyOk184 : TyOk Tryz.prog 184 ty184 := ⟨Tryz.underlying184, by kernel_rfl⟩
def ty185 : TI := { u := .func #[163, 187, 3, 4] #[161] false, size := 1, bytes := 8, zero := .nilFunc }
theorem tyOk185 : TyOk Tryz.prog 185 ty185 := ⟨Tryz.underlying185, by kernel_rfl⟩
def ty186 : TI := { u := .struct #[{ name := "state", type := 3, offset := 0, embedded := false, tag := "", pkgPath := "runnel/nfa", byteOffset := 0 }, { name := "at", type := 3, offset := 1, embedded := false, tag := "", pkgPath := "runnel/nfa", byteOffset := 8 }], size := 2, bytes := 16, zero := .agg #[.int .i64 (0), .int .i64 (0)] }
theorem tyOk186 : TyOk Tryz.prog 186 ty186 := ⟨Tryz.underlying186, by kernel_rfl⟩
def ty187 : TI := { u := .struct #[{ name := "state", type := 3, offset := 0, embedded := false, tag := "", pkgPath := "runnel/nfa", byteOffset := 0 }, { name := "at", type := 3, offset := 1, embedded := false, tag := "", pkgPath := "runnel/nfa", byteOffset := 8 }], size := 2, bytes := 16, zero := .agg #[.int .i64 (0), .int .i64 (0)] }
theorem tyOk187 : TyOk Tryz.prog 187 ty187 := ⟨Tryz.underlying187, by kernel_rfl⟩
def ty188 : TI := { u := .func #[3, 3, 43] #[3] false, size := 1, bytes := 8, zero := .nilFunc }
theorem tyOk188 : TyOk Tryz.prog 188 ty188 := ⟨Tryz.underlying188, by kernel_rfl⟩
def ty189 : TI := { u := .func #[3, 3, 3, 43] #[] false, size := 1, bytes := 8, zero := .nilFunc }
theorem tyOk189 : TyOk Tryz.prog 189 ty189 := ⟨Tryz.underlying189, by kernel_rfl⟩
def ty190 : TI := { u := .func #[43] #[43] false, size := 1, bytes := 8, zero := .nilFunc }
theorem tyOk190 : TyOk Tryz.prog 190 ty190 := ⟨Tryz.underlying190, by kernel_rfl⟩
def ty191 : TI := { u := .func #[44, 44, 3, 3] #[145] false, size := 1, bytes := 8, zero := .nilFunc }
theorem tyOk191 : TyOk Tryz.prog 191 ty191 := ⟨Tryz.underlying191, by kernel_rfl⟩
def ty192 : TI := { u := .func #[96] #[3] false, size := 1, bytes := 8, zero := .nilFunc }
theorem tyOk192 : TyOk Tryz.prog 192 ty192 := ⟨Tryz.underlying192, by kernel_rfl⟩
def ty193 : TI := { u := .func #[96, 3] #[46] false, size := 1, bytes := 8, zero := .nilFunc }
theorem tyOk193 : TyOk Tryz.prog 193 ty193 := ⟨Tryz.underlying193, by kernel_rfl⟩
def ty194 : TI := { u := .pointer 197, size := 1, bytes := 8, zero := .pointer none }
theorem tyOk194 : TyOk Tryz.prog 194 ty194 := ⟨Tryz.underlying194, by kernel_rfl⟩
def ty195 : TI := { u := .map 281 145, size := 1, bytes := 8, zero := .map none }
theorem tyOk195 : TyOk Tryz.prog 195 ty195 := ⟨Tryz.underlying195, by kernel_rfl⟩
def ty196 : TI := { u := .struct #[{ name := "walk", type := 88, offset := 0, embedded := false, tag := "", pkgPath := "runnel/backmatch", byteOffset := 0 }, { name := "spans", type := 23, offset := 2, embedded := false, tag := "", pkgPath := "runnel/backmatch", byteOffset := 24 }, { name := "found", type := 195, offset := 3, embedded := false, tag := "", pkgPath := "runnel/backmatch", byteOffset := 48 }], size := 4, bytes := 56, zero := .agg #[.string ⟨#[]⟩, .int .i64 (0), .slice none 0 0, .map none] }
theorem tyOk196 : TyOk Tryz.prog 196 ty196 := ⟨Tryz.underlying196, by kernel_rfl⟩
def ty197 : TI := { u := .struct #[{ name := "walk", type := 88, offset := 0, embedded := false, tag := "", pkgPath := "runnel/backmatch", byteOffset := 0 }, { name := "spans", type := 23, offset := 2, embedded := false, tag := "", pkgPath := "runnel/backmatch", byteOffset := 24 }, { name := "found", type := 195, offset := 3, embedded := false, tag := "", pkgPath := "runnel/backmatch", byteOffset := 48 }], size := 4, bytes := 56, zero := .agg #[.string ⟨#[]⟩, .int .i64 (0), .slice none 0 0, .map none] }
theorem tyOk197 : TyOk Tryz.prog 197 ty197 := ⟨Tryz.underlying197, by kernel_rfl⟩
def ty199 : TI := { u := .func #[9, 9, 3] #[3, 24] false, size := 1, bytes := 8, zero := .nilFunc }
theorem tyOk199 : TyOk Tryz.prog 199 ty199 := ⟨Tryz.underlying199, by kernel_rfl⟩
def ty200 : TI := { u := .func #[96, 93, 3, 3] #[4] false, size := 1, bytes := 8, zero := .nilFunc }
theorem tyOk200 : TyOk Tryz.prog 200 ty200 := ⟨Tryz.underlying200, by kernel_rfl⟩
def ty201 : TI := { u := .func #[3, 3] #[] false, size := 1, bytes := 8, zero := .nilFunc }
theorem tyOk201 : TyOk Tryz.prog 201 ty201 := ⟨Tryz.underlying201, by kernel_rfl⟩
def ty202 : TI := { u := .func #[4, 4] #[46] false, size := 1, bytes := 8, zero := .nilFunc }
theorem tyOk202 : TyOk Tryz.prog 202 ty202 := ⟨Tryz.underlying202, by kernel_rfl⟩
def ty203 : TI := { u := .func #[46] #[46] false, size := 1, bytes := 8, zero := .nilFunc }
theorem tyOk203 : TyOk Tryz.prog 203 ty203 := ⟨Tryz.underlying203, by kernel_rfl⟩
def ty204 : TI := { u := .func #[9, 21] #[3] false, size := 1, bytes := 8, zero := .nilFunc }
theorem tyOk204 : TyOk Tryz.prog 204 ty204 := ⟨Tryz.underlying204, by kernel_rfl⟩
def ty205 : TI := { u := .func #[3] #[4] false, size := 1, bytes := 8, zero := .nilFunc }
theorem tyOk205 : TyOk Tryz.prog 205 ty205 := ⟨Tryz.underlying205, by kernel_rfl⟩
def ty206 : TI := { u := .array 256 4, size := 256, bytes := 256, zero := .agg (Array.replicate 256 (.bool false)) }
theorem tyOk206 : TyOk Tryz.prog 206 ty206 := ⟨Tryz.underlying206, by kernel_rfl⟩
def ty207 : TI := { u := .array 256 4, size := 256, bytes := 256, zero := .agg (Array.replicate 256 (.bool false)) }
theorem tyOk207 : TyOk Tryz.prog 207 ty207 := ⟨Tryz.underlying207, by kernel_rfl⟩
def ty209 : TI := { u := .func #[9] #[207, 4] false, size := 1, bytes := 8, zero := .nilFunc }
theorem tyOk209 : TyOk Tryz.prog 209 ty209 := ⟨Tryz.underlying209, by kernel_rfl⟩
def ty210 : TI := { u := .func #[5] #[4] false, size := 1, bytes := 8, zero := .nilFunc }
theorem tyOk210 : TyOk Tryz.prog 210 ty210 := ⟨Tryz.underlying210, by kernel_rfl⟩
def ty211 : TI := { u := .unsafePointer, size := 1, bytes := 8, zero := .pointer none }
theorem tyOk211 : TyOk Tryz.prog 211 ty211 := ⟨Tryz.underlying211, by kernel_rfl⟩
def ty212 : TI := { u := .func #[211] #[211] false, size := 1, bytes := 8, zero := .nilFunc }
theorem tyOk212 : TyOk Tryz.prog 212 ty212 := ⟨Tryz.underlying212, by kernel_rfl⟩
def ty213 : TI := { u := .func #[9, 3, 4] #[156, 3] false, size := 1, bytes := 8, zero := .nilFunc }
theorem tyOk213 : TyOk Tryz.prog 213 ty213 := ⟨Tryz.underlying213, by kernel_rfl⟩
def ty215 : TI := { u := .func #[9, 3] #[43, 3, 24] false, size := 1, bytes := 8, zero := .nilFunc }
theorem tyOk215 : TyOk Tryz.prog 215 ty215 := ⟨Tryz.underlying215, by kernel_rfl⟩
def ty216 : TI := { u := .func #[3, 24] #[156] false, size := 1, bytes := 8, zero := .nilFunc }
theorem tyOk216 : TyOk Tryz.prog 216 ty216 := ⟨Tryz.underlying216, by kernel_rfl⟩
def ty217 : TI := { u := .func #[3, 5] #[156] false, size := 1, bytes := 8, zero := .nilFunc }
theorem tyOk217 : TyOk Tryz.prog 217 ty217 := ⟨Tryz.underlying217, by kernel_rfl⟩
def ty218 : TI := { u := .slice 187, size := 1, bytes := 24, zero := .slice none 0 0 }
theorem tyOk218 : TyOk Tryz.prog 218 ty218 := ⟨Tryz.underlying218, by kernel_rfl⟩
def ty219 : TI := { u := .slice 221, size := 1, bytes := 24, zero := .slice none 0 0 }
theorem tyOk219 : TyOk Tryz.prog 219 ty219 := ⟨Tryz.underlying219, by kernel_rfl⟩
def ty220 : TI := { u := .struct #[{ name := "kind", type := 3, offset := 0, embedded := false, tag := "", pkgPath := "runnel/nfa", byteOffset := 0 }, { name := "set", type := 43, offset := 1, embedded := false, tag := "", pkgPath := "runnel/nfa", byteOffset := 8 }, { name := "to", type := 3, offset := 5, embedded := false, tag := "", pkgPath := "runnel/nfa", byteOffset := 40 }], size := 6, bytes := 48, zero := .agg #[.int .i64 (0), .int .u64 (0), .int .u64 (0), .int .u64 (0), .int .u64 (0), .int .i64 (0)] }
theorem tyOk220 : TyOk Tryz.prog 220 ty220 := ⟨Tryz.underlying220, by kernel_rfl⟩
def ty221 : TI := { u := .struct #[{ name := "kind", type := 3, offset := 0, embedded := false, tag := "", pkgPath := "runnel/nfa", byteOffset := 0 }, { name := "set", type := 43, offset := 1, embedded := false, tag := "", pkgPath := "runnel/nfa", byteOffset := 8 }, { name := "to", type := 3, offset := 5, embedded := false, tag := "", pkgPath := "runnel/nfa", byteOffset := 40 }], size := 6, bytes := 48, zero := .agg #[.int .i64 (0), .int .u64 (0), .int .u64 (0), .int .u64 (0), .int .u64 (0), .int .i64 (0)] }
theorem tyOk221 : TyOk Tryz.prog 221 ty221 := ⟨Tryz.underlying221, by kernel_rfl⟩
def ty222 : TI := { u := .func #[43, 5] #[4] false, size := 1, bytes := 8, zero := .nilFunc }
theorem tyOk222 : TyOk Tryz.prog 222 ty222 := ⟨Tryz.underlying222, by kernel_rfl⟩
def ty223 : TI := { u := .func #[43, 43, 224] #[43] false, size := 1, bytes := 8, zero := .nilFunc }
theorem tyOk223 : TyOk Tryz.prog 223 ty223 := ⟨Tryz.underlying223, by kernel_rfl⟩
def ty224 : TI := { u := .func #[41, 41] #[41] false, size := 1, bytes := 8, zero := .nilFunc }
theorem tyOk224 : TyOk Tryz.prog 224 ty224 := ⟨Tryz.underlying224, by kernel_rfl⟩
def ty225 : TI := { u := .func #[96] #[4] false, size := 1, bytes := 8, zero := .nilFunc }
theorem tyOk225 : TyOk Tryz.prog 225 ty225 := ⟨Tryz.underlying225, by kernel_rfl⟩
def ty226 : TI := { u := .pointer 229, size := 1, bytes := 8, zero := .pointer none }
theorem tyOk226 : TyOk Tryz.prog 226 ty226 := ⟨Tryz.underlying226, by kernel_rfl⟩
def ty227 : TI := { u := .map 251 145, size := 1, bytes := 8, zero := .map none }
theorem tyOk227 : TyOk Tryz.prog 227 ty227 := ⟨Tryz.underlying227, by kernel_rfl⟩
def ty228 : TI := { u := .struct #[{ name := "subject", type := 9, offset := 0, embedded := false, tag := "", pkgPath := "runnel/ways", byteOffset := 0 }, { name := "rows", type := 227, offset := 1, embedded := false, tag := "", pkgPath := "runnel/ways", byteOffset := 16 }], size := 2, bytes := 24, zero := .agg #[.string ⟨#[]⟩, .map none] }
theorem tyOk228 : TyOk Tryz.prog 228 ty228 := ⟨Tryz.underlying228, by kernel_rfl⟩
def ty229 : TI := { u := .struct #[{ name := "subject", type := 9, offset := 0, embedded := false, tag := "", pkgPath := "runnel/ways", byteOffset := 0 }, { name := "rows", type := 227, offset := 1, embedded := false, tag := "", pkgPath := "runnel/ways", byteOffset := 16 }], size := 2, bytes := 24, zero := .agg #[.string ⟨#[]⟩, .map none] }
theorem tyOk229 : TyOk Tryz.prog 229 ty229 := ⟨Tryz.underlying229, by kernel_rfl⟩
def ty230 : TI := { u := .func #[96, 3] #[145] false, size := 1, bytes := 8, zero := .nilFunc }
theorem tyOk230 : TyOk Tryz.prog 230 ty230 := ⟨Tryz.underlying230, by kernel_rfl⟩
def ty231 : TI := { u := .func #[96, 3, 3] #[4] false, size := 1, bytes := 8, zero := .nilFunc }
theorem tyOk231 : TyOk Tryz.prog 231 ty231 := ⟨Tryz.underlying231, by kernel_rfl⟩
def ty232 : TI := { u := .func #[] #[46] false, size := 1, bytes := 8, zero := .nilFunc }
theorem tyOk232 : TyOk Tryz.prog 232 ty232 := ⟨Tryz.underlying232, by kernel_rfl⟩
def ty234 : TI := { u := .func #[9, 3] #[43, 3, 3] false, size := 1, bytes := 8, zero := .nilFunc }
theorem tyOk234 : TyOk Tryz.prog 234 ty234 := ⟨Tryz.underlying234, by kernel_rfl⟩
def ty235 : TI := { u := .func #[5] #[46] false, size := 1, bytes := 8, zero := .nilFunc }
theorem tyOk235 : TyOk Tryz.prog 235 ty235 := ⟨Tryz.underlying235, by kernel_rfl⟩
def ty237 : TI := { u := .func #[] #[3, 3, 4] false, size := 1, bytes := 8, zero := .nilFunc }
theorem tyOk237 : TyOk Tryz.prog 237 ty237 := ⟨Tryz.underlying237, by kernel_rfl⟩
def ty238 : TI := { u := .func #[21] #[4] false, size := 1, bytes := 8, zero := .nilFunc }
theorem tyOk238 : TyOk Tryz.prog 238 ty238 := ⟨Tryz.underlying238, by kernel_rfl⟩
def ty239 : TI := { u := .func #[3] #[3] false, size := 1, bytes := 8, zero := .nilFunc }
theorem tyOk239 : TyOk Tryz.prog 239 ty239 := ⟨Tryz.underlying239, by kernel_rfl⟩
def ty240 : TI := { u := .int .u64, size := 1, bytes := 8, zero := .int .u64 (0) }
theorem tyOk240 : TyOk Tryz.prog 240 ty240 := ⟨Tryz.underlying240, by kernel_rfl⟩
def ty241 : TI := { u := .pointer 207, size := 1, bytes := 8, zero := .pointer none }
theorem tyOk241 : TyOk Tryz.prog 241 ty241 := ⟨Tryz.underlying241, by kernel_rfl⟩
def ty243 : TI := { u := .func #[9, 3] #[3, 3, 3, 4] false, size := 1, bytes := 8, zero := .nilFunc }
theorem tyOk243 : TyOk Tryz.prog 243 ty243 := ⟨Tryz.underlying243, by kernel_rfl⟩
def ty244 : TI := { u := .pointer 246, size := 1, bytes := 8, zero := .pointer none }
theorem tyOk244 : TyOk Tryz.prog 244 ty244 := ⟨Tryz.underlying244, by kernel_rfl⟩
def ty245 : TI := { u := .struct #[{ name := "text", type := 9, offset := 0, embedded := false, tag := "", pkgPath := "runnel/bracket", byteOffset := 0 }, { name := "at", type := 3, offset := 1, embedded := false, tag := "", pkgPath := "runnel/bracket", byteOffset := 16 }, { name := "e", type := 24, offset := 2, embedded := false, tag := "", pkgPath := "runnel/bracket", byteOffset := 24 }], size := 3, bytes := 32, zero := .agg #[.string ⟨#[]⟩, .int .i64 (0), .int .i64 (0)] }
theorem tyOk245 : TyOk Tryz.prog 245 ty245 := ⟨Tryz.underlying245, by kernel_rfl⟩
def ty246 : TI := { u := .struct #[{ name := "text", type := 9, offset := 0, embedded := false, tag := "", pkgPath := "runnel/bracket", byteOffset := 0 }, { name := "at", type := 3, offset := 1, embedded := false, tag := "", pkgPath := "runnel/bracket", byteOffset := 16 }, { name := "e", type := 24, offset := 2, embedded := false, tag := "", pkgPath := "runnel/bracket", byteOffset := 24 }], size := 3, bytes := 32, zero := .agg #[.string ⟨#[]⟩, .int .i64 (0), .int .i64 (0)] }
theorem tyOk246 : TyOk Tryz.prog 246 ty246 := ⟨Tryz.underlying246, by kernel_rfl⟩
def ty247 : TI := { u := .func #[43, 43] #[43] false, size := 1, bytes := 8, zero := .nilFunc }
theorem tyOk247 : TyOk Tryz.prog 247 ty247 := ⟨Tryz.underlying247, by kernel_rfl⟩
def ty248 : TI := { u := .func #[] #[43] false, size := 1, bytes := 8, zero := .nilFunc }
theorem tyOk248 : TyOk Tryz.prog 248 ty248 := ⟨Tryz.underlying248, by kernel_rfl⟩
def ty249 : TI := { u := .func #[9] #[43] false, size := 1, bytes := 8, zero := .nilFunc }
theorem tyOk249 : TyOk Tryz.prog 249 ty249 := ⟨Tryz.underlying249, by kernel_rfl⟩
def ty250 : TI := { u := .struct #[{ name := "r", type := 96, offset := 0, embedded := false, tag := "", pkgPath := "runnel/ways", byteOffset := 0 }, { name := "at", type := 3, offset := 1, embedded := false, tag := "", pkgPath := "runnel/ways", byteOffset := 8 }], size := 2, bytes := 16, zero := .agg #[.pointer none, .int .i64 (0)] }
theorem tyOk250 : TyOk Tryz.prog 250 ty250 := ⟨Tryz.underlying250, by kernel_rfl⟩
def ty251 : TI := { u := .struct #[{ name := "r", type := 96, offset := 0, embedded := false, tag := "", pkgPath := "runnel/ways", byteOffset := 0 }, { name := "at", type := 3, offset := 1, embedded := false, tag := "", pkgPath := "runnel/ways", byteOffset := 8 }], size := 2, bytes := 16, zero := .agg #[.pointer none, .int .i64 (0)] }
theorem tyOk251 : TyOk Tryz.prog 251 ty251 := ⟨Tryz.underlying251, by kernel_rfl⟩
def ty253 : TI := { u := .func #[145, 96] #[145] false, size := 1, bytes := 8, zero := .nilFunc }
theorem tyOk253 : TyOk Tryz.prog 253 ty253 := ⟨Tryz.underlying253, by kernel_rfl⟩
def ty254 : TI := { u := .func #[145, 96, 4] #[145] false, size := 1, bytes := 8, zero := .nilFunc }
theorem tyOk254 : TyOk Tryz.prog 254 ty254 := ⟨Tryz.underlying254, by kernel_rfl⟩
def ty255 : TI := { u := .slice 262, size := 1, bytes := 24, zero := .slice none 0 0 }
theorem tyOk255 : TyOk Tryz.prog 255 ty255 := ⟨Tryz.underlying255, by kernel_rfl⟩
def ty256 : TI := { u := .pointer 258, size := 1, bytes := 8, zero := .pointer none }
theorem tyOk256 : TyOk Tryz.prog 256 ty256 := ⟨Tryz.underlying256, by kernel_rfl⟩
def ty257 : TI := { u := .struct #[{ name := "r", type := 96, offset := 0, embedded := false, tag := "", pkgPath := "runnel/backmatch", byteOffset := 0 }, { name := "k", type := 3, offset := 1, embedded := false, tag := "", pkgPath := "runnel/backmatch", byteOffset := 8 }, { name := "i", type := 3, offset := 2, embedded := false, tag := "", pkgPath := "runnel/backmatch", byteOffset := 16 }, { name := "j", type := 3, offset := 3, embedded := false, tag := "", pkgPath := "runnel/backmatch", byteOffset := 24 }, { name := "next", type := 256, offset := 4, embedded := false, tag := "", pkgPath := "runnel/backmatch", byteOffset := 32 }], size := 5, bytes := 40, zero := .agg #[.pointer none, .int .i64 (0), .int .i64 (0), .int .i64 (0), .pointer none] }
theorem tyOk257 : TyOk Tryz.prog 257 ty257 := ⟨Tryz.underlying257, by kernel_rfl⟩
def ty258 : TI := { u := .struct #[{ name := "r", type := 96, offset := 0, embedded := false, tag := "", pkgPath := "runnel/backmatch", byteOffset := 0 }, { name := "k", type := 3, offset := 1, embedded := false, tag := "", pkgPath := "runnel/backmatch", byteOffset := 8 }, { name := "i", type := 3, offset := 2, embedded := false, tag := "", pkgPath := "runnel/backmatch", byteOffset := 16 }, { name := "j", type := 3, offset := 3, embedded := false, tag := "", pkgPath := "runnel/backmatch", byteOffset := 24 }, { name := "next", type := 256, offset := 4, embedded := false, tag := "", pkgPath := "runnel/backmatch", byteOffset := 32 }], size := 5, bytes := 40, zero := .agg #[.pointer none, .int .i64 (0), .int .i64 (0), .int .i64 (0), .pointer none] }
theorem tyOk258 : TyOk Tryz.prog 258 ty258 := ⟨Tryz.underlying258, by kernel_rfl⟩
def ty259 : TI := { u := .func #[256] #[145, 4] false, size := 1, bytes := 8, zero := .nilFunc }
theorem tyOk259 : TyOk Tryz.prog 259 ty259 := ⟨Tryz.underlying259, by kernel_rfl⟩
def ty260 : TI := { u := .func #[256] #[4] false, size := 1, bytes := 8, zero := .nilFunc }
theorem tyOk260 : TyOk Tryz.prog 260 ty260 := ⟨Tryz.underlying260, by kernel_rfl⟩
def ty261 : TI := { u := .struct #[{ name := "task", type := 256, offset := 0, embedded := false, tag := "", pkgPath := "runnel/backmatch", byteOffset := 0 }, { name := "ends", type := 145, offset := 1, embedded := false, tag := "", pkgPath := "runnel/backmatch", byteOffset := 8 }, { name := "spans", type := 23, offset := 2, embedded := false, tag := "", pkgPath := "runnel/backmatch", byteOffset := 32 }], size := 3, bytes := 56, zero := .agg #[.pointer none, .slice none 0 0, .slice none 0 0] }
theorem tyOk261 : TyOk Tryz.prog 261 ty261 := ⟨Tryz.underlying261, by kernel_rfl⟩
def ty262 : TI := { u := .struct #[{ name := "task", type := 256, offset := 0, embedded := false, tag := "", pkgPath := "runnel/backmatch", byteOffset := 0 }, { name := "ends", type := 145, offset := 1, embedded := false, tag := "", pkgPath := "runnel/backmatch", byteOffset := 8 }, { name := "spans", type := 23, offset := 2, embedded := false, tag := "", pkgPath := "runnel/backmatch", byteOffset := 32 }], size := 3, bytes := 56, zero := .agg #[.pointer none, .slice none 0 0, .slice none 0 0] }
theorem tyOk262 : TyOk Tryz.prog 262 ty262 := ⟨Tryz.underlying262, by kernel_rfl⟩
def ty263 : TI := { u := .func #[256, 3] #[256] false, size := 1, bytes := 8, zero := .nilFunc }
theorem tyOk263 : TyOk Tryz.prog 263 ty263 := ⟨Tryz.underlying263, by kernel_rfl⟩
def ty264 : TI := { u := .pointer 262, size := 1, bytes := 8, zero := .pointer none }
theorem tyOk264 : TyOk Tryz.prog 264 ty264 := ⟨Tryz.underlying264, by kernel_rfl⟩
def ty265 : TI := { u := .struct #[{ name := "Set", type := 43, offset := 0, embedded := false, tag := "", pkgPath := "", byteOffset := 0 }, { name := "Byte", type := 5, offset := 4, embedded := false, tag := "", pkgPath := "", byteOffset := 32 }, { name := "End", type := 4, offset := 5, embedded := false, tag := "", pkgPath := "", byteOffset := 33 }, { name := "Next", type := 3, offset := 6, embedded := false, tag := "", pkgPath := "", byteOffset := 40 }, { name := "E", type := 3, offset := 7, embedded := false, tag := "", pkgPath := "", byteOffset := 48 }], size := 8, bytes := 56, zero := .agg #[.int .u64 (0), .int .u64 (0), .int .u64 (0), .int .u64 (0), .int .u8 (0), .bool false, .int .i64 (0), .int .i64 (0)] }
theorem tyOk265 : TyOk Tryz.prog 265 ty265 := ⟨Tryz.underlying265, by kernel_rfl⟩
def ty266 : TI := { u := .struct #[{ name := "Set", type := 43, offset := 0, embedded := false, tag := "", pkgPath := "", byteOffset := 0 }, { name := "Byte", type := 5, offset := 4, embedded := false, tag := "", pkgPath := "", byteOffset := 32 }, { name := "End", type := 4, offset := 5, embedded := false, tag := "", pkgPath := "", byteOffset := 33 }, { name := "Next", type := 3, offset := 6, embedded := false, tag := "", pkgPath := "", byteOffset := 40 }, { name := "E", type := 3, offset := 7, embedded := false, tag := "", pkgPath := "", byteOffset := 48 }], size := 8, bytes := 56, zero := .agg #[.int .u64 (0), .int .u64 (0), .int .u64 (0), .int .u64 (0), .int .u8 (0), .bool false, .int .i64 (0), .int .i64 (0)] }
theorem tyOk266 : TyOk Tryz.prog 266 ty266 := ⟨Tryz.underlying266, by kernel_rfl⟩
def ty267 : TI := { u := .func #[9, 3] #[266] false, size := 1, bytes := 8, zero := .nilFunc }
theorem tyOk267 : TyOk Tryz.prog 267 ty267 := ⟨Tryz.underlying267, by kernel_rfl⟩
def ty268 : TI := { u := .func #[43, 3] #[4] false, size := 1, bytes := 8, zero := .nilFunc }
theorem tyOk268 : TyOk Tryz.prog 268 ty268 := ⟨Tryz.underlying268, by kernel_rfl⟩
def ty269 : TI := { u := .func #[43, 3] #[43] false, size := 1, bytes := 8, zero := .nilFunc }
theorem tyOk269 : TyOk Tryz.prog 269 ty269 := ⟨Tryz.underlying269, by kernel_rfl⟩
def ty271 : TI := { u := .func #[9, 3] #[3, 3] false, size := 1, bytes := 8, zero := .nilFunc }
theorem tyOk271 : TyOk Tryz.prog 271 ty271 := ⟨Tryz.underlying271, by kernel_rfl⟩
def ty273 : TI := { u := .func #[] #[43, 5, 4] false, size := 1, bytes := 8, zero := .nilFunc }
theorem tyOk273 : TyOk Tryz.prog 273 ty273 := ⟨Tryz.underlying273, by kernel_rfl⟩
def ty275 : TI := { u := .func #[5, 5] #[43, 24] false, size := 1, bytes := 8, zero := .nilFunc }
theorem tyOk275 : TyOk Tryz.prog 275 ty275 := ⟨Tryz.underlying275, by kernel_rfl⟩
def ty276 : TI := { u := .func #[277, 5] #[] false, size := 1, bytes := 8, zero := .nilFunc }
theorem tyOk276 : TyOk Tryz.prog 276 ty276 := ⟨Tryz.underlying276, by kernel_rfl⟩
def ty277 : TI := { u := .pointer 43, size := 1, bytes := 8, zero := .pointer none }
theorem tyOk277 : TyOk Tryz.prog 277 ty277 := ⟨Tryz.underlying277, by kernel_rfl⟩
def ty278 : TI := { u := .func #[145] #[4] false, size := 1, bytes := 8, zero := .nilFunc }
theorem tyOk278 : TyOk Tryz.prog 278 ty278 := ⟨Tryz.underlying278, by kernel_rfl⟩
def ty279 : TI := { u := .func #[281, 44, 44] #[145] false, size := 1, bytes := 8, zero := .nilFunc }
theorem tyOk279 : TyOk Tryz.prog 279 ty279 := ⟨Tryz.underlying279, by kernel_rfl⟩
def ty280 : TI := { u := .struct #[{ name := "r", type := 96, offset := 0, embedded := false, tag := "", pkgPath := "runnel/backmatch", byteOffset := 0 }, { name := "k", type := 3, offset := 1, embedded := false, tag := "", pkgPath := "runnel/backmatch", byteOffset := 8 }, { name := "i", type := 3, offset := 2, embedded := false, tag := "", pkgPath := "runnel/backmatch", byteOffset := 16 }, { name := "j", type := 3, offset := 3, embedded := false, tag := "", pkgPath := "runnel/backmatch", byteOffset := 24 }], size := 4, bytes := 32, zero := .agg #[.pointer none, .int .i64 (0), .int .i64 (0), .int .i64 (0)] }
theorem tyOk280 : TyOk Tryz.prog 280 ty280 := ⟨Tryz.underlying280, by kernel_rfl⟩
def ty281 : TI := { u := .struct #[{ name := "r", type := 96, offset := 0, embedded := false, tag := "", pkgPath := "runnel/backmatch", byteOffset := 0 }, { name := "k", type := 3, offset := 1, embedded := false, tag := "", pkgPath := "runnel/backmatch", byteOffset := 8 }, { name := "i", type := 3, offset := 2, embedded := false, tag := "", pkgPath := "runnel/backmatch", byteOffset := 16 }, { name := "j", type := 3, offset := 3, embedded := false, tag := "", pkgPath := "runnel/backmatch", byteOffset := 24 }], size := 4, bytes := 32, zero := .agg #[.pointer none, .int .i64 (0), .int .i64 (0), .int .i64 (0)] }
theorem tyOk281 : TyOk Tryz.prog 281 ty281 := ⟨Tryz.underlying281, by kernel_rfl⟩
def ty282 : TI := { u := .func #[9, 3] #[4] false, size := 1, bytes := 8, zero := .nilFunc }
theorem tyOk282 : TyOk Tryz.prog 282 ty282 := ⟨Tryz.underlying282, by kernel_rfl⟩
def ty284 : TI := { u := .func #[5, 5] #[43, 3] false, size := 1, bytes := 8, zero := .nilFunc }
theorem tyOk284 : TyOk Tryz.prog 284 ty284 := ⟨Tryz.underlying284, by kernel_rfl⟩
def ty286 : TI := { u := .func #[] #[9, 5] false, size := 1, bytes := 8, zero := .nilFunc }
theorem tyOk286 : TyOk Tryz.prog 286 ty286 := ⟨Tryz.underlying286, by kernel_rfl⟩
def ty287 : TI := { u := .func #[9] #[43, 24] false, size := 1, bytes := 8, zero := .nilFunc }
theorem tyOk287 : TyOk Tryz.prog 287 ty287 := ⟨Tryz.underlying287, by kernel_rfl⟩
def ty288 : TI := { u := .func #[9, 3, 5] #[3] false, size := 1, bytes := 8, zero := .nilFunc }
theorem tyOk288 : TyOk Tryz.prog 288 ty288 := ⟨Tryz.underlying288, by kernel_rfl⟩
def ty289 : TI := { u := .func #[9] #[43, 3] false, size := 1, bytes := 8, zero := .nilFunc }
theorem tyOk289 : TyOk Tryz.prog 289 ty289 := ⟨Tryz.underlying289, by kernel_rfl⟩
def ty291 : TI := { u := .func #[9, 5] #[4, 4] false, size := 1, bytes := 8, zero := .nilFunc }
theorem tyOk291 : TyOk Tryz.prog 291 ty291 := ⟨Tryz.underlying291, by kernel_rfl⟩
def ty292 : TI := { u := .func #[9] #[9] false, size := 1, bytes := 8, zero := .nilFunc }
theorem tyOk292 : TyOk Tryz.prog 292 ty292 := ⟨Tryz.underlying292, by kernel_rfl⟩
def ty293 : TI := { u := .func #[43] #[3] false, size := 1, bytes := 8, zero := .nilFunc }
theorem tyOk293 : TyOk Tryz.prog 293 ty293 := ⟨Tryz.underlying293, by kernel_rfl⟩
def ty294 : TI := { u := .func #[43] #[68] false, size := 1, bytes := 8, zero := .nilFunc }
theorem tyOk294 : TyOk Tryz.prog 294 ty294 := ⟨Tryz.underlying294, by kernel_rfl⟩
def ty295 : TI := { u := .int .u32, size := 1, bytes := 4, zero := .int .u32 (0) }
theorem tyOk295 : TyOk Tryz.prog 295 ty295 := ⟨Tryz.underlying295, by kernel_rfl⟩
def ty297 : TI := { u := .func #[9] #[295, 295] false, size := 1, bytes := 8, zero := .nilFunc }
theorem tyOk297 : TyOk Tryz.prog 297 ty297 := ⟨Tryz.underlying297, by kernel_rfl⟩
def ty305 : TI := { u := .func #[211, 211] #[4] false, size := 1, bytes := 8, zero := .nilFunc }
theorem tyOk305 : TyOk Tryz.prog 305 ty305 := ⟨Tryz.underlying305, by kernel_rfl⟩
def ty310 : TI := { u := .func #[9, 3] #[23, 4, 3] false, size := 1, bytes := 8, zero := .nilFunc }
theorem tyOk310 : TyOk Tryz.prog 310 ty310 := ⟨Tryz.underlying310, by kernel_rfl⟩
def ty311 : TI := { u := .func #[3, 3, 4, 9] #[4, 4, 3] false, size := 1, bytes := 8, zero := .nilFunc }
theorem tyOk311 : TyOk Tryz.prog 311 ty311 := ⟨Tryz.underlying311, by kernel_rfl⟩
def TTl : List (Nat × TI) := [(1, ty1), (2, ty2), (3, ty3), (4, ty4), (5, ty5), (9, ty9), (12, ty12), (21, ty21), (22, ty22), (23, ty23), (24, ty24), (26, ty26), (27, ty27), (28, ty28), (29, ty29), (30, ty30), (31, ty31), (32, ty32), (33, ty33), (35, ty35), (36, ty36), (38, ty38), (39, ty39), (40, ty40), (41, ty41), (42, ty42), (43, ty43), (44, ty44), (45, ty45), (46, ty46), (47, ty47), (48, ty48), (49, ty49), (50, ty50), (51, ty51), (52, ty52), (53, ty53), (54, ty54), (55, ty55), (56, ty56), (57, ty57), (59, ty59), (60, ty60), (61, ty61), (62, ty62), (63, ty63), (64, ty64), (65, ty65), (67, ty67), (68, ty68), (70, ty70), (71, ty71), (72, ty72), (73, ty73), (75, ty75), (77, ty77), (78, ty78), (79, ty79), (81, ty81), (82, ty82), (83, ty83), (85, ty85), (86, ty86), (87, ty87), (88, ty88), (89, ty89), (90, ty90), (92, ty92), (93, ty93), (94, ty94), (95, ty95), (96, ty96), (98, ty98), (99, ty99), (100, ty100), (101, ty101), (103, ty103), (104, ty104), (105, ty105), (108, ty108), (109, ty109), (110, ty110), (111, ty111), (112, ty112), (113, ty113), (114, ty114), (115, ty115), (116, ty116), (117, ty117), (118, ty118), (119, ty119), (120, ty120), (121, ty121), (122, ty122), (123, ty123), (124, ty124), (125, ty125), (126, ty126), (130, ty130), (132, ty132), (133, ty133), (134, ty134), (135, ty135), (136, ty136), (137, ty137), (138, ty138), (139, ty139), (141, ty141), (142, ty142), (143, ty143), (144, ty144), (145, ty145), (146, ty146), (147, ty147), (148, ty148), (149, ty149), (150, ty150), (151, ty151), (152, ty152), (153, ty153), (154, ty154), (155, ty155), (156, ty156), (157, ty157), (158, ty158), (159, ty159), (160, ty160), (161, ty161), (162, ty162), (163, ty163), (164, ty164), (165, ty165), (166, ty166), (167, ty167), (168, ty168), (169, ty169), (170, ty170), (171, ty171), (172, ty172), (173, ty173), (174, ty174), (175, ty175), (176, ty176), (177, ty177), (178, ty178), (180, ty180), (181, ty181), (182, ty182), (183, ty183), (184, ty184), (185, ty185), (186, ty186), (187, ty187), (188, ty188), (189, ty189), (190, ty190), (191, ty191), (192, ty192), (193, ty193), (194, ty194), (195, ty195), (196, ty196), (197, ty197), (199, ty199), (200, ty200), (201, ty201), (202, ty202), (203, ty203), (204, ty204), (205, ty205), (206, ty206), (207, ty207), (209, ty209), (210, ty210), (211, ty211), (212, ty212), (213, ty213), (215, ty215), (216, ty216), (217, ty217), (218, ty218), (219, ty219), (220, ty220), (221, ty221), (222, ty222), (223, ty223), (224, ty224), (225, ty225), (226, ty226), (227, ty227), (228, ty228), (229, ty229), (230, ty230), (231, ty231), (232, ty232), (234, ty234), (235, ty235), (237, ty237), (238, ty238), (239, ty239), (240, ty240), (241, ty241), (243, ty243), (244, ty244), (245, ty245), (246, ty246), (247, ty247), (248, ty248), (249, ty249), (250, ty250), (251, ty251), (253, ty253), (254, ty254), (255, ty255), (256, ty256), (257, ty257), (258, ty258), (259, ty259), (260, ty260), (261, ty261), (262, ty262), (263, ty263), (264, ty264), (265, ty265), (266, ty266), (267, ty267), (268, ty268), (269, ty269), (271, ty271), (273, ty273), (275, ty275), (276, ty276), (277, ty277), (278, ty278), (279, ty279), (280, ty280), (281, ty281), (282, ty282), (284, ty284), (286, ty286), (287, ty287), (288, ty288), (289, ty289), (291, ty291), (292, ty292), (293, ty293), (294, ty294), (295, ty295), (297, ty297), (305, ty305), (310, ty310), (311, ty311)]
def TB : TyTab Tryz.prog := tabOf TTl ⟨tyOk1, tyOk2, tyOk3, tyOk4, tyOk5, tyOk9, tyOk12, tyOk21, tyOk22, tyOk23, tyOk24, tyOk26, tyOk27, tyOk28, tyOk29, tyOk30, tyOk31, tyOk32, tyOk33, tyOk35, tyOk36, tyOk38, tyOk39, tyOk40, tyOk41, tyOk42, tyOk43, tyOk44, tyOk45, tyOk46, tyOk47, tyOk48, tyOk49, tyOk50, tyOk51, tyOk52, tyOk53, tyOk54, tyOk55, tyOk56, tyOk57, tyOk59, tyOk60, tyOk61, tyOk62, tyOk63, tyOk64, tyOk65, tyOk67, tyOk68, tyOk70, tyOk71, tyOk72, tyOk73, tyOk75, tyOk77, tyOk78, tyOk79, tyOk81, tyOk82, tyOk83, tyOk85, tyOk86, tyOk87, tyOk88, tyOk89, tyOk90, tyOk92, tyOk93, tyOk94, tyOk95, tyOk96, tyOk98, tyOk99, tyOk100, tyOk101, tyOk103, tyOk104, tyOk105, tyOk108, tyOk109, tyOk110, tyOk111, tyOk112, tyOk113, tyOk114, tyOk115, tyOk116, tyOk117, tyOk118, tyOk119, tyOk120, tyOk121, tyOk122, tyOk123, tyOk124, tyOk125, tyOk126, tyOk130, tyOk132, tyOk133, tyOk134, tyOk135, tyOk136, tyOk137, tyOk138, tyOk139, tyOk141, tyOk142, tyOk143, tyOk144, tyOk145, tyOk146, tyOk147, tyOk148, tyOk149, tyOk150, tyOk151, tyOk152, tyOk153, tyOk154, tyOk155, tyOk156, tyOk157, tyOk158, tyOk159, tyOk160, tyOk161, tyOk162, tyOk163, tyOk164, tyOk165, tyOk166, tyOk167, tyOk168, tyOk169, tyOk170, tyOk171, tyOk172, tyOk173, tyOk174, tyOk175, tyOk176, tyOk177, tyOk178, tyOk180, tyOk181, tyOk182, tyOk183, tyOk184, tyOk185, tyOk186, tyOk187, tyOk188, tyOk189, tyOk190, tyOk191, tyOk192, tyOk193, tyOk194, tyOk195, tyOk196, tyOk197, tyOk199, tyOk200, tyOk201, tyOk202, tyOk203, tyOk204, tyOk205, tyOk206, tyOk207, tyOk209, tyOk210, tyOk211, tyOk212, tyOk213, tyOk215, tyOk216, tyOk217, tyOk218, tyOk219, tyOk220, tyOk221, tyOk222, tyOk223, tyOk224, tyOk225, tyOk226, tyOk227, tyOk228, tyOk229, tyOk230, tyOk231, tyOk232, tyOk234, tyOk235, tyOk237, tyOk238, tyOk239, tyOk240, tyOk241, tyOk243, tyOk244, tyOk245, tyOk246, tyOk247, tyOk248, tyOk249, tyOk250, tyOk251, tyOk253, tyOk254, tyOk255, tyOk256, tyOk257, tyOk258, tyOk259, tyOk260, tyOk261, tyOk262, tyOk263, tyOk264, tyOk265, tyOk266, tyOk267, tyOk268, tyOk269, tyOk271, tyOk273, tyOk275, tyOk276, tyOk277, tyOk278, tyOk279, tyOk280, tyOk281, tyOk282, tyOk284, tyOk286, tyOk287, tyOk288, tyOk289, tyOk291, tyOk292, tyOk293, tyOk294, tyOk295, tyOk297, tyOk305, tyOk310, tyOk311, trivial⟩
theorem mixed : Tryz.prog.follows .mixedOrders = true := Tryz.checked.mixed
theorem ent8 : Enters Tryz.prog 8 := enters_of Tryz.func8 (by kernel_rfl) rfl
theorem ent10 : Enters Tryz.prog 10 := enters_of Tryz.func10 (by kernel_rfl) rfl
theorem ent20 : Enters Tryz.prog 20 := enters_of Tryz.func20 (by kernel_rfl) rfl
theorem ent21 : Enters Tryz.prog 21 := enters_of Tryz.func21 (by kernel_rfl) rfl
theorem ent22 : Enters Tryz.prog 22 := enters_of Tryz.func22 (by kernel_rfl) rfl
theorem ent23 : Enters Tryz.prog 23 := enters_of Tryz.func23 (by kernel_rfl) rfl
theorem ent24 : Enters Tryz.prog 24 := enters_of Tryz.func24 (by kernel_rfl) rfl
theorem ent25 : Enters Tryz.prog 25 := enters_of Tryz.func25 (by kernel_rfl) rfl
theorem ent26 : Enters Tryz.prog 26 := enters_of Tryz.func26 (by kernel_rfl) rfl
theorem ent27 : Enters Tryz.prog 27 := enters_of Tryz.func27 (by kernel_rfl) rfl
theorem ent28 : Enters Tryz.prog 28 := enters_of Tryz.func28 (by kernel_rfl) rfl
theorem ent29 : Enters Tryz.prog 29 := enters_of Tryz.func29 (by kernel_rfl) rfl
theorem ent30 : Enters Tryz.prog 30 := enters_of Tryz.func30 (by kernel_rfl) rfl
theorem ent31 : Enters Tryz.prog 31 := enters_of Tryz.func31 (by kernel_rfl) rfl
theorem ent32 : Enters Tryz.prog 32 := enters_of Tryz.func32 (by kernel_rfl) rfl
theorem ent34 : Enters Tryz.prog 34 := enters_of Tryz.func34 (by kernel_rfl) rfl
theorem ent35 : Enters Tryz.prog 35 := enters_of Tryz.func35 (by kernel_rfl) rfl
theorem ent36 : Enters Tryz.prog 36 := enters_of Tryz.func36 (by kernel_rfl) rfl
theorem ent37 : Enters Tryz.prog 37 := enters_of Tryz.func37 (by kernel_rfl) rfl
theorem ent38 : Enters Tryz.prog 38 := enters_of Tryz.func38 (by kernel_rfl) rfl
theorem ent40 : Enters Tryz.prog 40 := enters_of Tryz.func40 (by kernel_rfl) rfl
theorem ent45 : Enters Tryz.prog 45 := enters_of Tryz.func45 (by kernel_rfl) rfl
theorem ent49 : Enters Tryz.prog 49 := enters_of Tryz.func49 (by kernel_rfl) rfl
theorem ent50 : Enters Tryz.prog 50 := enters_of Tryz.func50 (by kernel_rfl) rfl
theorem ent51 : Enters Tryz.prog 51 := enters_of Tryz.func51 (by kernel_rfl) rfl
theorem ent52 : Enters Tryz.prog 52 := enters_of Tryz.func52 (by kernel_rfl) rfl
theorem ent53 : Enters Tryz.prog 53 := enters_of Tryz.func53 (by kernel_rfl) rfl
theorem ent54 : Enters Tryz.prog 54 := enters_of Tryz.func54 (by kernel_rfl) rfl
theorem ent55 : Enters Tryz.prog 55 := enters_of Tryz.func55 (by kernel_rfl) rfl
theorem ent56 : Enters Tryz.prog 56 := enters_of Tryz.func56 (by kernel_rfl) rfl
theorem ent57 : Enters Tryz.prog 57 := enters_of Tryz.func57 (by kernel_rfl) rfl
theorem ent58 : Enters Tryz.prog 58 := enters_of Tryz.func58 (by kernel_rfl) rfl
theorem ent59 : Enters Tryz.prog 59 := enters_of Tryz.func59 (by kernel_rfl) rfl
theorem ent60 : Enters Tryz.prog 60 := enters_of Tryz.func60 (by kernel_rfl) rfl
theorem ent61 : Enters Tryz.prog 61 := enters_of Tryz.func61 (by kernel_rfl) rfl
theorem ent62 : Enters Tryz.prog 62 := enters_of Tryz.func62 (by kernel_rfl) rfl
theorem ent63 : Enters Tryz.prog 63 := enters_of Tryz.func63 (by kernel_rfl) rfl
theorem ent64 : Enters Tryz.prog 64 := enters_of Tryz.func64 (by kernel_rfl) rfl
theorem ent65 : Enters Tryz.prog 65 := enters_of Tryz.func65 (by kernel_rfl) rfl
theorem ent66 : Enters Tryz.prog 66 := enters_of Tryz.func66 (by kernel_rfl) rfl
theorem ent72 : Enters Tryz.prog 72 := enters_of Tryz.func72 (by kernel_rfl) rfl
theorem ent73 : Enters Tryz.prog 73 := enters_of Tryz.func73 (by kernel_rfl) rfl
theorem ent74 : Enters Tryz.prog 74 := enters_of Tryz.func74 (by kernel_rfl) rfl
theorem ent75 : Enters Tryz.prog 75 := enters_of Tryz.func75 (by kernel_rfl) rfl
theorem ent76 : Enters Tryz.prog 76 := enters_of Tryz.func76 (by kernel_rfl) rfl
theorem ent77 : Enters Tryz.prog 77 := enters_of Tryz.func77 (by kernel_rfl) rfl
theorem ent78 : Enters Tryz.prog 78 := enters_of Tryz.func78 (by kernel_rfl) rfl
theorem ent79 : Enters Tryz.prog 79 := enters_of Tryz.func79 (by kernel_rfl) rfl
theorem ent80 : Enters Tryz.prog 80 := enters_of Tryz.func80 (by kernel_rfl) rfl
theorem ent81 : Enters Tryz.prog 81 := enters_of Tryz.func81 (by kernel_rfl) rfl
theorem ent82 : Enters Tryz.prog 82 := enters_of Tryz.func82 (by kernel_rfl) rfl
theorem ent83 : Enters Tryz.prog 83 := enters_of Tryz.func83 (by kernel_rfl) rfl
theorem ent84 : Enters Tryz.prog 84 := enters_of Tryz.func84 (by kernel_rfl) rfl
theorem ent85 : Enters Tryz.prog 85 := enters_of Tryz.func85 (by kernel_rfl) rfl
theorem ent86 : Enters Tryz.prog 86 := enters_of Tryz.func86 (by kernel_rfl) rfl
theorem ent87 : Enters Tryz.prog 87 := enters_of Tryz.func87 (by kernel_rfl) rfl
theorem ent88 : Enters Tryz.prog 88 := enters_of Tryz.func88 (by kernel_rfl) rfl
theorem ent89 : Enters Tryz.prog 89 := enters_of Tryz.func89 (by kernel_rfl) rfl
theorem ent90 : Enters Tryz.prog 90 := enters_of Tryz.func90 (by kernel_rfl) rfl
theorem ent91 : Enters Tryz.prog 91 := enters_of Tryz.func91 (by kernel_rfl) rfl
theorem ent107 : Enters Tryz.prog 107 := enters_of Tryz.func107 (by kernel_rfl) rfl
theorem ent108 : Enters Tryz.prog 108 := enters_of Tryz.func108 (by kernel_rfl) rfl
theorem ent109 : Enters Tryz.prog 109 := enters_of Tryz.func109 (by kernel_rfl) rfl
theorem ent110 : Enters Tryz.prog 110 := enters_of Tryz.func110 (by kernel_rfl) rfl
theorem ent111 : Enters Tryz.prog 111 := enters_of Tryz.func111 (by kernel_rfl) rfl
theorem ent112 : Enters Tryz.prog 112 := enters_of Tryz.func112 (by kernel_rfl) rfl
theorem ent113 : Enters Tryz.prog 113 := enters_of Tryz.func113 (by kernel_rfl) rfl
theorem ent114 : Enters Tryz.prog 114 := enters_of Tryz.func114 (by kernel_rfl) rfl
theorem ent115 : Enters Tryz.prog 115 := enters_of Tryz.func115 (by kernel_rfl) rfl
theorem ent128 : Enters Tryz.prog 128 := enters_of Tryz.func128 (by kernel_rfl) rfl
theorem ent129 : Enters Tryz.prog 129 := enters_of Tryz.func129 (by kernel_rfl) rfl
theorem ent130 : Enters Tryz.prog 130 := enters_of Tryz.func130 (by kernel_rfl) rfl
theorem ent131 : Enters Tryz.prog 131 := enters_of Tryz.func131 (by kernel_rfl) rfl
theorem ent132 : Enters Tryz.prog 132 := enters_of Tryz.func132 (by kernel_rfl) rfl
theorem ent144 : Enters Tryz.prog 144 := enters_of Tryz.func144 (by kernel_rfl) rfl
theorem ent145 : Enters Tryz.prog 145 := enters_of Tryz.func145 (by kernel_rfl) rfl
theorem ent146 : Enters Tryz.prog 146 := enters_of Tryz.func146 (by kernel_rfl) rfl
theorem ent147 : Enters Tryz.prog 147 := enters_of Tryz.func147 (by kernel_rfl) rfl
theorem ent148 : Enters Tryz.prog 148 := enters_of Tryz.func148 (by kernel_rfl) rfl
theorem ent149 : Enters Tryz.prog 149 := enters_of Tryz.func149 (by kernel_rfl) rfl
theorem ent155 : Enters Tryz.prog 155 := enters_of Tryz.func155 (by kernel_rfl) rfl
theorem ent156 : Enters Tryz.prog 156 := enters_of Tryz.func156 (by kernel_rfl) rfl
theorem ent159 : Enters Tryz.prog 159 := enters_of Tryz.func159 (by kernel_rfl) rfl
theorem ent160 : Enters Tryz.prog 160 := enters_of Tryz.func160 (by kernel_rfl) rfl
end Go.Proofs.YtblpgpgbnlhjlaaGreat
namespace Go.Proofs.YtblpgpgbnlhjlaaGreat
open Go Go.RowKit Sl
set_option maxRecDepth 100000
set_option maxHeartbeats 8000000
set_option linter.unusedVariables false
set_option linter.unusedSimpArgs false
attribute [local irreducible] ES EL PX wps
abbrev QA := Option Addr × Nat
end Go.Proofs.YtblpgpgbnlhjlaaGreat
namespace Go.Proofs.YtblpgpgbnlhjlaaGreat.Sl
open Go Go.RowKit
set_option linter.unusedVariables false
set_option linter.unusedSimpArgs false
def MutAt {X : Type} (P : Program) (f : FuncId) (argv : Array Value) (Hq : List HA) (val : X → Value) (HX : X → List HA) (w0 : World) (B : Nat) : Prop :=
  ∀ (R : List HA) (w : World), Sat w0 B (Hq ++ R) w → Calls P f argv w fun e w' => ∃ x, e = .returned (val x) ∧ Sat w0 B (HX x ++ R) w'
theorem all1 {vs : List Value} (h : vs.all (fun u : Value => u.oneCell') = true) : ∀ u ∈ vs, u.oneCell' = true := fun u hu => List.all_eq_true.1 h u hu
section m
variable {C : Cx} {all : Array Oper} {ops : List Oper} {Q : Qt} {E : Env} {H R : List HA} {d ty : Nat} {pos : String} {af : Array Edge} {gd : Option (Nat × Bool)}
theorem EL.callMw {X : Type} {fo : Operand} {ar : Array Operand} {tys : Array TypeId} {f : FuncId} {vs : List Value} {Hq : List HA} {val : X → Value} {HX : X → List HA} (hg : guardOk all E gd = some true) (hf : E.ev fo = some (.func (.func f) #[] #[])) (ha : E.evl ar.toList = some vs)
    (he : Enters C.P f) (hd : Nat.blt d C.n = true) (hc : MutAt C.P f vs.toArray Hq val HX C.w0 C.B) (tk : Takes H Hq R)
    (k : ∀ x, EL C all ops Q ((d, val x) :: E) (HX x ++ R)) : EL C all (⟨some d, .call { callee := .value fo, args := ar, argTypes := tys }, ty, pos, af, gd⟩ :: ops) Q E H :=
  EL.call val (fun x => HX x ++ R) hg hf ha (by simp) he hd (fun w hs => hc R w (hs.perm tk.perm)) k
theorem EL.callMw1 {fo : Operand} {ar : Array Operand} {tys : Array TypeId} {f : FuncId} {vs : List Value} {Hq Hr : List HA} {v : Value} (hg : guardOk all E gd = some true) (hf : E.ev fo = some (.func (.func f) #[] #[])) (ha : E.evl ar.toList = some vs)
    (he : Enters C.P f) (hd : Nat.blt d C.n = true) (hc : MutAt C.P f vs.toArray Hq (fun _ : Unit => v) (fun _ => Hr) C.w0 C.B) (tk : Takes H Hq R)
    (k : EL C all ops Q ((d, v) :: E) (Hr ++ R)) : EL C all (⟨some d, .call { callee := .value fo, args := ar, argTypes := tys }, ty, pos, af, gd⟩ :: ops) Q E H :=
  EL.callMw hg hf ha he hd hc tk (fun _ => k)
end m
section mm
variable {C : Cx} {E : Env} {H : List HA} {d ty : Nat} {pos : String} {af : Array Edge} {gd : Option (Nat × Bool)} {x y : Operand} {m n : Int} {k : IntKind} {tys : Array TypeId}
theorem RV.minI (hx : E.ev x = some (.int k m)) (hy : E.ev y = some (.int k n)) : RunV C E H ⟨some d, .call { callee := .builtin .min, args := #[x, y], argTypes := tys }, ty, pos, af, gd⟩ (.int k (min m n)) := fun a w ha => by
  have h : (if n < m then n else m) = min m n := by omega
  simp [execOp, ha.1.ev hx, ha.1.ev hy, resolve, invoke, builtin, Builtin.min_, Builtin.min2, Result.andThen, h]
theorem RV.maxI (hx : E.ev x = some (.int k m)) (hy : E.ev y = some (.int k n)) : RunV C E H ⟨some d, .call { callee := .builtin .max, args := #[x, y], argTypes := tys }, ty, pos, af, gd⟩ (.int k (max m n)) := fun a w ha => by
  have h : (if m < n then n else m) = max m n := by omega
  simp [execOp, ha.1.ev hx, ha.1.ev hy, resolve, invoke, builtin, Builtin.max_, Builtin.max2, Result.andThen, h]
end mm
section p
variable {C : Cx} {all : Array Oper} {Q : Qt} {E : Env} {H Hs : List HA} {f : Nat} {L : Array Bool}
theorem ED.partB {d : Nat} {b : Bool} (hv : E.get d = some (.bool b)) (ht : b = true → ED C all Hs f L ((d, .bool true) :: E) H Q) (hf : b = false → ED C all Hs f L ((d, .bool false) :: E) H Q) : ED C all Hs f L E H Q := by
  intro a w ha hs
  have hslot := ha.1.get d _ hv
  have fit : ∀ c : Bool, b = c → Fits C.n C.D ((d, .bool c) :: E) a := fun c hb => ⟨ha.1.dfr, ha.1.size, fun d' v' h' => by
    rw [Env.get_cons] at h'
    by_cases e : d = d'
    · subst e; rw [if_pos rfl] at h'; rw [← Option.some.inj h', hslot, hb]
    · rw [if_neg e] at h'; exact ha.1.get d' v' h'⟩
  cases hb : b with
  | true => exact ht hb a w ⟨fit true hb, ha.2⟩ hs
  | false => exact hf hb a w ⟨fit false hb, ha.2⟩ hs
theorem ED.partN {d : Nat} {p : Prop} [Decidable p] (hv : E.get d = some (.bool (!decide p))) (ht : ¬ p → ED C all Hs f L ((d, .bool true) :: E) H Q) (hf : p → ED C all Hs f L ((d, .bool false) :: E) H Q) : ED C all Hs f L E H Q :=
  ED.partB hv (fun e => ht (by simpa using e)) (fun e => hf (by simpa using e))
end p
section imp
variable {C : Cx} {cs : List Code} {all : Array Oper} {ops : List Oper} {Q : Qt} {E : Env} {H H' : List HA}
theorem ES.imp (h : ∀ w, Sat C.w0 C.B H w → Sat C.w0 C.B H' w) (k : ES C cs Q E H') : ES C cs Q E H := fun a w ha => k a w ⟨ha.1, h w ha.2⟩
theorem EL.imp (h : ∀ w, Sat C.w0 C.B H w → Sat C.w0 C.B H' w) (k : EL C all ops Q E H') : EL C all ops Q E H := fun a w ha => k a w ⟨ha.1, h w ha.2⟩
end imp
end Go.Proofs.YtblpgpgbnlhjlaaGreat.Sl
namespace Go.Proofs.YtblpgpgbnlhjlaaGreat.Sl
open Go Go.RowKit
set_option linter.unusedVariables false
set_option linter.unusedSimpArgs false
section draws2
variable {C : Cx} {all : Array Oper} {Q : Qt}
def bindsT (all : Array Oper) : Nat → Nat → Nat → Bool
  | 0, _, _ => false
  | f + 1, j, k => match all[j]? with
    | some o => o.after.any fun e => Region.binds .any e && (Nat.beq e.on k || bindsT all f e.on k)
    | none => false
def lateBinds (all : Array Oper) (m : Nat) : Bool := (List.range all.size).all fun j => Nat.blt j m || (List.range m).all fun k => bindsT all 7 j k
theorem bindsT_done {L : Array Bool} (hcl : Closed all L) : ∀ (f j k : Nat) (oj : Oper), bindsT all f j k = true → all[j]? = some oj → (∀ e ∈ oj.after, Region.binds .any e = true → L.getD e.on false = true) → L.getD k false = true
  | 0, _, _, _, h, _, _ => by cases h
  | f + 1, j, k, oj, h, hj, hall => by
    simp only [bindsT, hj] at h
    obtain ⟨e, he, h2⟩ := Array.any_eq_true'.1 h
    simp only [Bool.and_eq_true, Bool.or_eq_true] at h2
    have hd := hall e he h2.1
    rcases h2.2 with h3 | h3
    · rw [Nat.eq_of_beq_eq_true h3] at hd; exact hd
    · cases f with
      | zero => cases h3
      | succ f =>
        cases ho : all[e.on]? with
        | none => simp only [bindsT, ho] at h3; cases h3
        | some o => exact bindsT_done hcl (f + 1) e.on k o h3 ho (fun e' he' hb' => hcl e.on o ho hd e' he' hb')
theorem late_not {m : Nat} {L : Array Bool} (hb : lateBinds all m = true) (hcl : Closed all L) {i j : Nat} {oj : Oper} (hi : L.getD i false = true → False) (him : i < m) (hj : all[j]? = some oj) (hjm : m ≤ j)
    (h : (∀ e ∈ oj.after, Region.binds .any e = true → L.getD e.on false = true)) : False := by
  have hlt : j < all.size := (Array.getElem?_eq_some_iff.1 hj).1
  have h1 := List.all_eq_true.1 hb j (List.mem_range.2 hlt)
  simp only [Bool.or_eq_true] at h1
  rcases h1 with h1 | h1
  · have : j < m := by simpa using h1
    omega
  · exact hi (bindsT_done hcl 7 j i oj (List.all_eq_true.1 h1 i (List.mem_range.2 him)) hj h)
def someLate (m : Nat) (L : Array Bool) : Bool := (List.range L.size).any fun k => Nat.ble m k && L.getD k false
theorem someLate_true {m : Nat} {L : Array Bool} (h : someLate m L = true) : ∃ k, m ≤ k ∧ L.getD k false = true := by
  obtain ⟨k, _, h2⟩ := List.any_eq_true.1 h
  simp only [Bool.and_eq_true] at h2
  exact ⟨k, Nat.le_of_ble_eq_true h2.1, h2.2⟩
theorem someLate_of {m : Nat} {L : Array Bool} {k : Nat} (hk : m ≤ k) (h : L.getD k false = true) : someLate m L = true := by
  have hlt : k < L.size := by
    rcases Nat.lt_or_ge k L.size with h' | h'
    · exact h'
    · simp [Array.getElem?_eq_none h'] at h
  exact List.any_eq_true.2 ⟨k, List.mem_range.2 hlt, by rw [h, Nat.ble_eq_true_of_le hk]; rfl⟩
def KS (C : Cx) (Hs : List HA) (m : Nat) (L : Array Bool) (w : World) : Prop := Sat C.w0 C.B [] w ∧ (someLate m L = false → Sat C.w0 C.B Hs w)
def wpAnyG (C : Cx) (all : Array Oper) (Q : Qt) (Hs : List HA) (m : Nat) : Nat → Array Bool → Act → World → Prop
  | 0, L, a, w => Region.ready .any all L = [] ∧ Q .normal a w
  | f + 1, L, a, w => (Region.ready .any all L = [] → Q .normal a w) ∧
    ∀ i ∈ Region.ready .any all L, wpOpIn (F0 C.r) 0 C.P all Q i (fun a' w' => KS C Hs m (L.setIfInBounds i true) w' ∧ wpAnyG C all Q Hs m f (L.setIfInBounds i true) a' w') a w
theorem wpAnyG.any {Hs : List HA} {m : Nat} : ∀ (f : Nat) (L : Array Bool) (a : Act) (w : World), wpAnyG C all Q Hs m f L a w → wpAnyIn (F0 C.r) 0 C.P .any all Q f L a w
  | 0, _, _, _, h => h
  | f + 1, _, _, _, h => ⟨h.1, fun i hi => wpOpIn_mono (fun a' w' h' => wpAnyG.any f _ a' w' h'.2) (h.2 i hi)⟩
theorem ready_undone {L : Array Bool} {i : Nat} (h : i ∈ Region.ready .any all L) : L.getD i false = true → False := fun h1 => by
  have h0 := (mem_ready.1 h).1
  rcases Nat.lt_or_ge i L.size with h' | h'
  · simp [h'] at h0 h1; rw [h0] at h1; cases h1
  · simp [Array.getElem?_eq_none h'] at h1
def need (Hs : List HA) (m i : Nat) : List HA := bif Nat.blt i m then Hs else []
theorem KS.need {Hs : List HA} {m i : Nat} {L : Array Bool} {w : World} (hb : lateBinds all m = true) (hcl : Closed all L) (hsz : L.size = all.size) (hi : i ∈ Region.ready .any all L) (h : KS C Hs m L w) : Sat C.w0 C.B (need Hs m i) w := by
  unfold Sl.need
  cases hm : Nat.blt i m with
  | false => exact h.1
  | true =>
    have him : i < m := by simpa using hm
    refine h.2 ?_
    cases hl : someLate m L with
    | false => rfl
    | true =>
      obtain ⟨k, hk, hd⟩ := someLate_true hl
      have hks : k < all.size := by
        rw [← hsz]
        rcases Nat.lt_or_ge k L.size with h' | h'
        · exact h'
        · simp [Array.getElem?_eq_none h'] at hd
      exact (late_not hb hcl (ready_undone hi) him (Array.getElem?_eq_getElem hks) hk (fun e he hb' => hcl k _ (Array.getElem?_eq_getElem hks) hd e he hb')).elim
theorem KS.back {Hs : List HA} {m i j : Nat} {L : Array Bool} {w : World} (hb : lateBinds all m = true) (hcl : Closed all L) (hi : i ∈ Region.ready .any all L) (hj : j ∈ Region.ready .any all L) (hji : j ≠ i) (h : KS C Hs m ((L.setIfInBounds i true).setIfInBounds j true) w) : KS C Hs m (L.setIfInBounds j true) w := by
  refine ⟨h.1, fun hl => h.2 ?_⟩
  cases hl2 : someLate m ((L.setIfInBounds i true).setIfInBounds j true) with
  | false => rfl
  | true =>
    exfalso
    obtain ⟨k, hk, hd⟩ := someLate_true hl2
    obtain ⟨hiun, oi, hoi, halli⟩ := mem_ready.1 hi
    obtain ⟨hjun, oj, hoj, hallj⟩ := mem_ready.1 hj
    by_cases hkj : j = k
    · subst hkj
      have hs : j < L.size := by
        rcases Nat.lt_or_ge j L.size with h' | h'
        · exact h'
        · simp [Array.getElem?_eq_none h'] at hjun
      have : someLate m (L.setIfInBounds j true) = true := someLate_of hk (by simp [hs])
      rw [this] at hl; cases hl
    · rw [getD_set_ne false hkj] at hd
      by_cases hki : i = k
      · subst hki
        rcases Nat.lt_or_ge j m with hjm | hjm
        · exact late_not hb hcl (ready_undone hj) hjm hoi hk halli
        · have hs : j < L.size := by
            rcases Nat.lt_or_ge j L.size with h' | h'
            · exact h'
            · simp [Array.getElem?_eq_none h'] at hjun
          have : someLate m (L.setIfInBounds j true) = true := someLate_of hjm (by simp [hs])
          rw [this] at hl; cases hl
      · rw [getD_set_ne false hki] at hd
        have : someLate m (L.setIfInBounds j true) = true := someLate_of hk (by rw [getD_set_ne false hkj]; exact hd)
        rw [this] at hl; cases hl
theorem KS.quiet {Hs : List HA} {m i : Nat} {L : Array Bool} {w : World} (h : KS C Hs m L w) : KS C Hs m (L.setIfInBounds i true) w := by
  refine ⟨h.1, fun hl => h.2 ?_⟩
  cases hl2 : someLate m L with
  | false => rfl
  | true =>
    obtain ⟨k, hk, hd⟩ := someLate_true hl2
    rw [someLate_of hk (getD_set_done hd)] at hl; cases hl
theorem wpAnyG.first {i : Nat} {oi : Oper} {v : Value} (hi : all[i]? = some oi) (hnd : noDefer all = true) (hQ : ∀ c a w, ¬ Q (.panic c) a w) {Hs : List HA} {m : Nat} (hb : lateBinds all m = true) :
    ∀ (f : Nat) (L : Array Bool) (a : Act) (w : World), (∀ j oj, all[j]? = some oj → j ≠ i → L.getD j true = false → (∀ e ∈ oj.after, Region.binds .any e = true → e.on ≠ i) → oi.apart all oj = true) →
      Closed all L → L.size = all.size → i ∈ Region.ready .any all L → YieldsS C all (Sat C.w0 C.B (need Hs m i)) oi v a → KS C Hs m L w → wpAnyG C all Q Hs m f (L.setIfInBounds i true) (a.put oi.dst v) w → wpAnyG C all Q Hs m (f + 1) L a w := by
  have hdi := noDefer_spec hnd hi
  intro f
  induction f with
  | zero =>
    intro L a w _ hcl hsz hr hy hS H
    refine ⟨fun h => (by rw [h] at hr; cases hr), fun j hj => ?_⟩
    by_cases hji : j = i
    · subst hji; exact hy.step hi hdi.1 (hS.need hb hcl hsz hr) ⟨hS.quiet, H⟩
    · have := ready_mono hj hji
      rw [H.1] at this
      cases this
  | succ f ih =>
    intro L a w hfree hcl hsz hr hy hS H
    refine ⟨fun h => (by rw [h] at hr; cases hr), fun j hj => ?_⟩
    by_cases hji : j = i
    · subst hji; exact hy.step hi hdi.1 (hS.need hb hcl hsz hr) ⟨hS.quiet, H⟩
    · have h1 := H.2 j (ready_mono hj hji)
      obtain ⟨hjun, oj, hoj, hall⟩ := mem_ready.1 hj
      have hnot : ∀ e ∈ oj.after, Region.binds .any e = true → e.on ≠ i := fun e he hb heq => by
        have h1 := hall e he hb
        rw [heq] at h1
        exact ready_undone hr h1
      have hdj := noDefer_spec hnd hoj
      have h2 := YieldsS.other hoj (hfree j oj hoj hji hjun hnot) hdi.2 hdj.2 hdj.1 hQ hy h1
      refine wpOpIn_mono (fun a' w' h3 => ⟨h3.2.1.back hb hcl hr hj hji, ih (L.setIfInBounds j true) a' w' (fun k ok hk hki hun hno => ?_) (hcl.set hj) (by rw [Array.size_setIfInBounds]; exact hsz) (ready_mono hr (Ne.symm hji)) h3.1 (h3.2.1.back hb hcl hr hj hji) ?_⟩) h2
      · refine hfree k ok hk hki ?_ hno
        by_cases hjk : j = k
        · subst hjk; exact hjun
        · rw [getD_set_ne true hjk] at hun; exact hun
      · rw [Array.setIfInBounds_comm _ _ hji]
        exact h3.2.2
def EG (C : Cx) (all : Array Oper) (Hs : List HA) (m f : Nat) (L : Array Bool) (E : Env) (H : List HA) (Q : Qt) : Prop := lateBinds all m = true → L.size = all.size → ∀ a w, At C E H a w → KS C Hs m L w → wpAnyG C all Q Hs m f L a w
variable {Hs : List HA} {m f : Nat} {L : Array Bool} {E E' : Env} {H H' : List HA}
theorem EG.take (i : Nat) {o : Oper} {d : Nat} {v : Value} (hi : all[i]? = some o) (hnd : noDefer all = true) (hQ : ∀ c a w, ¬ Q (.panic c) a w) (ht : takeOk all L i = true) (hg : guardOk all E o.guard = some true) (hd : o.dst = some d) (hdn : Nat.blt d C.n = true)
    (hv : RunV C E (need Hs m i) o v) (k : EG C all Hs m f (L.setIfInBounds i true) ((d, v) :: E) H Q) : EG C all Hs m (f + 1) L E H Q := by
  intro hb hsz a w ha hs
  simp only [takeOk, Bool.and_eq_true] at ht
  have hr : i ∈ Region.ready .any all L := by simpa using ht.1.2
  refine wpAnyG.first hi hnd hQ hb f L a w (fun j oj => Region.free_spec hi ht.1.1 j oj) (closedB_spec ht.2) hsz hr (.inl ⟨guardOk_wanted hg ha.1, fun w' hS => hv a w' ⟨ha.1, hS⟩⟩) hs ?_
  rw [hd]
  exact k hb (by rw [Array.size_setIfInBounds]; exact hsz) _ _ ⟨ha.1.put (by simpa using hdn) v, ha.2⟩ hs.quiet
def GK (C : Cx) (all : Array Oper) (Hs : List HA) (m f : Nat) (L : Array Bool) (Q : Qt) : Qt := fun e a w => match e with
  | .normal => KS C Hs m L w ∧ wpAnyG C all Q Hs m f L a w
  | e => Q e a w
theorem loud_opG {i : Nat} {o : Oper} (hi : all[i]? = some o) (k : EL C all [o] (GK C all Hs m f (L.setIfInBounds i true) Q) E H) {a : Act} {w : World} (ha : At C E H a w) :
    wpOpIn (F0 C.r) 0 C.P all Q i (fun a' w' => KS C Hs m (L.setIfInBounds i true) w' ∧ wpAnyG C all Q Hs m f (L.setIfInBounds i true) a' w') a w := by
  have hk := k a w ha
  have hD : ∀ e a w, GK C all Hs m f (L.setIfInBounds i true) Q e a w → match e with | .normal => KS C Hs m (L.setIfInBounds i true) w ∧ wpAnyG C all Q Hs m f (L.setIfInBounds i true) a w | e => Q e a w := fun e a w h => by
    cases e with
    | normal => exact h
    | _ => exact h
  unfold wpOpIn
  simp only [hi]
  simp only [wpListIn] at hk
  split
  · rename_i hw
    simp only [hw, if_true] at hk
    refine ⟨fun _ _ => trivial, ?_⟩
    have h2 := hk.2
    generalize (o.semAt (F0 C.r).round a.eval).run C.P w = r at *
    cases r with
    | ok x w' =>
      cases x <;> simp only [Oper.uponIn] at h2 ⊢
      case value u => exact hD _ _ _ h2
      case skip => exact hD _ _ _ h2
      case defer d => exact hD _ _ _ h2
      case enter f args =>
        refine ⟨h2.1, CallsIn.mono h2.2 fun e w'' he => ?_⟩
        cases e with
        | returned u => exact hD _ _ _ he
        | panicked c => exact hD _ _ _ he
        | outgrown =>
          obtain ⟨a', w3, h3⟩ := he
          exact ⟨a', w3, hD _ _ _ h3⟩
      case row row args => exact ⟨h2.1, RowsIn.mono h2.2 fun u w'' he => hD _ _ _ he⟩
      case round l f tmps assign body =>
        refine ⟨h2.1, RoundIn.mono h2.2 fun e w'' he => ?_⟩
        cases e with
        | returned u => exact hD _ _ _ he
        | panicked c => exact hD _ _ _ he
        | outgrown =>
          obtain ⟨a', w3, h3⟩ := he
          exact ⟨a', w3, hD _ _ _ h3⟩
    | halt x w' =>
      cases x <;> simp only [Oper.uponIn] at h2 ⊢
      case panic u => exact hD _ _ _ h2
  · rename_i hw
    simp only [hw] at hk
    exact ⟨fun _ _ => trivial, hD _ _ _ hk.2⟩
def EGone (C : Cx) (all : Array Oper) (Hs : List HA) (m f : Nat) (L : Array Bool) (E : Env) (H : List HA) (Q : Qt) (j : Nat) : Prop := ∃ o, all[j]? = some o ∧ EL C all [o] (GK C all Hs m f (L.setIfInBounds j true) Q) E H
def EGall (C : Cx) (all : Array Oper) (Hs : List HA) (m f : Nat) (L : Array Bool) (E : Env) (H : List HA) (Q : Qt) : List Nat → Prop
  | [] => True
  | j :: r => EGone C all Hs m f L E H Q j ∧ EGall C all Hs m f L E H Q r
theorem EGall.get : ∀ {js : List Nat}, EGall C all Hs m f L E H Q js → ∀ j ∈ js, EGone C all Hs m f L E H Q j
  | j :: r, h, k, hk => by
    rcases List.mem_cons.1 hk with rfl | hk
    · exact h.1
    · exact EGall.get h.2 k hk
theorem EG.fork (i : Nat) (js : List Nat) (hr : (Region.ready .any all L == i :: js) = true) (h : EGall C all Hs m f L E H Q (i :: js)) : EG C all Hs m (f + 1) L E H Q := by
  intro hb hsz a w ha hs
  have hR : Region.ready .any all L = i :: js := by simpa using hr
  refine ⟨fun h => (by rw [hR] at h; cases h), fun j hj => ?_⟩
  rw [hR] at hj
  obtain ⟨o, ho, k⟩ := h.get j hj
  exact loud_opG ho k ha
theorem EG.loud (i : Nat) {o : Oper} (hi : all[i]? = some o) (hr : readyIs all L i = true) (k : EL C all [o] (GK C all Hs m f (L.setIfInBounds i true) Q) E H) : EG C all Hs m (f + 1) L E H Q := by
  intro hb hsz a w ha hs
  have hR : Region.ready .any all L = [i] := by
    unfold readyIs at hr
    split at hr
    · rename_i j hj; rw [hj, Nat.eq_of_beq_eq_true hr]
    · cases hr
  refine ⟨fun h => (by rw [hR] at h; cases h), fun j hj => ?_⟩
  rw [hR] at hj
  obtain rfl : j = i := by simpa using hj
  exact loud_opG hi k ha
theorem EG.next (hb : lateBinds all m = true) (hsz : Nat.beq L.size all.size = true) (hs : Ent H Hs) (k : EG C all Hs m f L E H Q) : EL C all [] (GK C all Hs m f L Q) E H := fun a w ha =>
  have hk : KS C Hs m L w := ⟨ha.2.ent (.nil _), fun _ => ha.2.ent hs⟩
  ⟨hk, k hb (Nat.eq_of_beq_eq_true hsz) a w ha hk⟩
theorem EG.nextL (hb : lateBinds all m = true) (hsz : Nat.beq L.size all.size = true) (hl : someLate m L = true) (k : EG C all Hs m f L E H Q) : EL C all [] (GK C all Hs m f L Q) E H := fun a w ha =>
  have hk : KS C Hs m L w := ⟨ha.2.ent (.nil _), fun h => by rw [hl] at h; cases h⟩
  ⟨hk, k hb (Nat.eq_of_beq_eq_true hsz) a w ha hk⟩
theorem EG.done (hr : (match Region.ready .any all L with | [] => true | _ => false) = true) (k : PX C Q .normal E H) : EG C all Hs m f L E H Q := by
  intro hb hsz a w ha hs
  have hR : Region.ready .any all L = [] := by
    split at hr
    · assumption
    · cases hr
  cases f with
  | zero => exact ⟨hR, k a w ha⟩
  | succ f => exact ⟨fun _ => k a w ha, fun i hi => absurd hi (by rw [hR]; simp)⟩
theorem ES.drawG {X : Type} {id : Nat} {ops : Array Oper} {cs : List Code} (Ex : X → Env) (Hx : X → List HA) (m : Nat) (Hs : List HA) (hm : C.P.follows .mixedOrders = true) (hb : lateBinds ops m = true) (hs : Ent H Hs)
    (h : EG C ops Hs m ops.size (Array.replicate ops.size false) E H (CutX C Ex Hx)) (k : ∀ x, ES C cs Q (Ex x) (Hx x)) : ES C (.region id ops true :: cs) Q E H := by
  intro a w ha
  have h1 := wpAnyG.any _ _ _ _ (h hb (by simp) a { w with drawn := w.drawn + 1 } ⟨ha.1, ha.2.drewN _⟩ ⟨(ha.2.ent (.nil _)).drewN _, fun _ => (ha.2.ent hs).drewN _⟩)
  have h2 := wpIn_region_any (id := id) hm h1
  refine wpIn_mono h2 ?_
  intro e a' w' hq
  cases e with
  | normal =>
    obtain ⟨_, x, hat⟩ := hq
    exact k x a' w' hat
  | _ => cases (hq.1 : _ = Exit.normal)
end draws2
end Go.Proofs.YtblpgpgbnlhjlaaGreat.Sl
namespace Go.Proofs.YtblpgpgbnlhjlaaGreat.Sl
open Go Go.RowKit
set_option linter.unusedVariables false
set_option linter.unusedSimpArgs false
def putAt (cs : List Value) (off : Nat) (vs : List Value) : List Value := cs.take off ++ vs ++ cs.drop (off + vs.length)
theorem putAt_len (cs : List Value) (off : Nat) (vs : List Value) (h : off + vs.length ≤ cs.length) : (putAt cs off vs).length = cs.length := by
  simp only [putAt, List.length_append, List.length_take, List.length_drop]; omega
section n
variable {C : Cx} {all : Array Oper} {ops : List Oper} {Q : Qt} {E : Env} {H H' R : List HA} {d ty t g off e : Nat} {pos : String} {af : Array Edge} {gd : Option (Nat × Bool)} {x y z : Operand} {v u : Value}
theorem setRow_grown (w : World) (g : Nat) (cs : Array Value) : w.grownBy (w.setRow g cs) (some g) :=
  ⟨rfl, rfl, rfl, by simp [World.setRow], fun k hk hne => by
    have : k ≠ g := fun e => hne (by rw [e])
    simp [World.setRow, Array.getElem?_modify, Ne.symm this]⟩
theorem setRow_get {w : World} {g : Nat} {cs cur : Array Value} {e : Nat} (h : w.heap[g]? = some (.cells cur e (0, 0))) : (w.setRow g cs).heap[g]? = some (.cells cs e (0, 0)) := by
  have hlt := (Array.getElem?_eq_some_iff.1 h).1
  simp [World.setRow, Array.getElem?_modify, h]
theorem run_put {P : Program} {w : World} {cs : Array Value} {vs : List Value} (h : w.heap[g]? = some (.cells cs e (0, 0))) (hl : off + vs.length ≤ cs.size) (h1 : ∀ u ∈ vs, u.oneCell' = true) :
    (storeCells ⟨g, off, none⟩ vs).run P w = .ok () (w.setRow g (putAt cs.toList off vs).toArray) := by
  have := run_storeCells_at (P := P) g off e vs 0 cs w h (by omega) h1
  simpa [putAt] using this
theorem EL.storeBA {ti : TI} {cs : Array Value} {vs : List Value} (hg : guardOk all E gd = some true) (hx : E.ev x = some (Pv g off)) (hy : E.ev y = some (.agg vs.toArray)) (ht : C.T.f t = some ti) (hsz : ti.size = vs.length)
    (p : PickSet H (HA.blk g (.cells cs e (0, 0))) (HA.blk g (.cells (putAt cs.toList off vs).toArray e (0, 0))) H') (hl : off + vs.length ≤ cs.size) (h1 : ∀ u ∈ vs, u.oneCell' = true) (k : EL C all ops Q E H') : EL C all (⟨none, .store t x y, ty, pos, af, gd⟩ :: ops) Q E H :=
  EL.unit hg rfl (by simp) (fun a w ha => by
    have hT := ((C.T.ok t ti ht).runInfo w)
    obtain ⟨R, p1, p2⟩ := p.split
    have hs1 := ha.2.perm p1
    have hb : w.heap[g]? = some (.cells cs e (0, 0)) := hs1.head
    have hr := run_put (P := C.P) hb hl h1
    have hn : (w.setRow g (putAt cs.toList off vs).toArray).heap[g]? = some (.cells (putAt cs.toList off vs).toArray e (0, 0)) := setRow_get hb
    refine ⟨_, ?_, Sat.perm (hs1.turned (A' := HA.blk g (.cells (putAt cs.toList off vs).toArray e (0, 0))) (setRow_grown w g _) (fun k hk => by cases hk; simp [HA.blk]) hn (fun g' hg' => ?_) (by simp [HA.blk])) p2.symm⟩
    · simp [execOp, ha.1.ev hx, ha.1.ev hy, Instr.storeAt, Instr.sureAddr, storeVar, hT.1, hsz, Value.cells, hr, Result.andThen]
    · simp only [HA.blk, List.mem_singleton] at hg'
      subst hg'
      exact ⟨(Array.getElem?_eq_some_iff.1 hn).1, .inl (by simp [HA.blk])⟩) k
theorem ownsRow_put {w : World} {len cap n sz : Nat} {cs vs : List Value} (h : w.ownsRow 0 e sz (.slice (some ⟨g, 0, none⟩) len cap) n cs) (hl : off + vs.length ≤ cs.length) :
    ∃ cur : Array Value, w.heap[g]? = some (.cells cur e (0, 0)) ∧ off + vs.length ≤ cur.size ∧ (w.setRow g (putAt cur.toList off vs).toArray).ownsRow 0 e sz (.slice (some ⟨g, 0, none⟩) len cap) n (putAt cs off vs) := by
  obtain ⟨hl0, h2⟩ := h
  rcases h2 with ⟨h', _⟩ | ⟨g', cap', cur, hv, hb, hh, r1, r2, r3, r4⟩
  · cases h'
  · have hv' := hv
    simp only [Value.slice.injEq, Option.some.injEq, Addr.mk.injEq] at hv'
    obtain ⟨⟨rfl, _⟩, rfl, rfl⟩ := hv'
    have hc : cs.length ≤ cur.size := by rw [← r4, List.length_take]; simp only [Array.length_toList]; omega
    refine ⟨cur, hh, by omega, by rw [putAt_len _ _ _ hl]; exact hl0, .inr ⟨g, cap, _, rfl, hb, setRow_get hh, r1, r2, by simp only [List.size_toArray]; rw [putAt_len _ _ _ (by simp only [Array.length_toList]; omega)]; simpa using r3, ?_⟩⟩
    simp only [putAt]
    have e1 : cur.toList.take off = cs.take off := by rw [← r4, List.take_take]; congr 1; omega
    rw [e1, List.append_assoc, List.append_assoc, List.take_append, List.take_append, List.length_take]
    have e2 : (cs.take off).take (len * sz) = cs.take off := by rw [List.take_take]; congr 1; omega
    rw [e2, Nat.min_eq_left (show off ≤ cs.length by omega), List.take_of_length_le (show vs.length ≤ len * sz - off by omega)]
    congr 2
    rw [← r4, List.drop_take]
    congr 1
    omega
theorem EL.storeRA {ti : TI} {len cap n sz : Nat} {cs vs : List Value} (hg : guardOk all E gd = some true) (hx : E.ev x = some (Pv g off)) (hy : E.ev y = some (.agg vs.toArray)) (ht : C.T.f t = some ti) (hsz : ti.size = vs.length)
    (p : PickSet H (HA.row (.slice (some ⟨g, 0, none⟩) len cap) e sz n cs) (HA.row (.slice (some ⟨g, 0, none⟩) len cap) e sz n (putAt cs off vs)) H') (hl : off + vs.length ≤ cs.length) (h1 : ∀ u ∈ vs, u.oneCell' = true) (k : EL C all ops Q E H') : EL C all (⟨none, .store t x y, ty, pos, af, gd⟩ :: ops) Q E H :=
  EL.unit hg rfl (by simp) (fun a w ha => by
    have hT := ((C.T.ok t ti ht).runInfo w)
    obtain ⟨R, p1, p2⟩ := p.split
    have hs1 := ha.2.perm p1
    have hb : w.ownsRow 0 e sz (.slice (some ⟨g, 0, none⟩) len cap) n cs := hs1.head
    obtain ⟨cur, hh, hle, hn⟩ := ownsRow_put hb hl
    have hr := run_put (P := C.P) hh hle h1
    refine ⟨_, ?_, Sat.perm (hs1.turned (A' := HA.row (.slice (some ⟨g, 0, none⟩) len cap) e sz n (putAt cs off vs)) (setRow_grown w g _) (fun k hk => by cases hk; simp [HA.row, Value.ownBlock]) hn (fun g' hg' => ?_) (by simp [HA.row, Value.ownBlock])) p2.symm⟩
    · simp [execOp, ha.1.ev hx, ha.1.ev hy, Instr.storeAt, Instr.sureAddr, storeVar, hT.1, hsz, Value.cells, hr, Result.andThen]
    · simp only [HA.row, Value.ownBlock, Option.toList_some, List.mem_singleton] at hg'
      subst hg'
      exact ⟨(Array.getElem?_eq_some_iff.1 (setRow_get hh)).1, .inl (by simp [HA.row, Value.ownBlock])⟩) k
theorem RV.loadRA {ti : TI} {len cap n sz : Nat} {cs : List Value} (vs : List Value) (hx : E.ev x = some (Pv g off)) (ht : C.T.f t = some ti) (hu : ti.agg = true) (hsz : ti.size = vs.length) (hm : Mem H (HA.row (.slice (some ⟨g, 0, none⟩) len cap) e sz n cs)) (hv : (cs.drop off).take vs.length = vs) :
    RunV C E H ⟨some d, .load t x, ty, pos, af, gd⟩ (.agg vs.toArray) :=
  RV.loadAgg hx ht hu hsz (fun w hs j u hj => by
    rw [add_n]
    refine row_cell (hs.all _ hm.mem) _ _ ?_
    rw [← hv, List.getElem?_take] at hj
    split at hj
    · rwa [List.getElem?_drop] at hj
    · cases hj)
theorem RV.loadBA {ti : TI} {cs : Array Value} {fr : Nat × Nat} (vs : List Value) (hx : E.ev x = some (Pv g off)) (ht : C.T.f t = some ti) (hu : ti.agg = true) (hsz : ti.size = vs.length) (hm : Mem H (HA.blk g (.cells cs e fr))) (hv : (cs.toList.drop off).take vs.length = vs) :
    RunV C E H ⟨some d, .load t x, ty, pos, af, gd⟩ (.agg vs.toArray) :=
  RV.loadAgg hx ht hu hsz (fun w hs j u hj => by
    rw [add_n, blk_cell (hs.all _ hm.mem)]
    rw [← hv, List.getElem?_take] at hj
    split at hj
    · rw [List.getElem?_drop] at hj; simpa using hj
    · cases hj)
theorem RV.sliceHi {ti te : TI} {el hi n cap : Nat} {ad : Option Addr} {kd : IntKind} (hx : E.ev x = some (.slice ad n cap)) (hy : E.ev y = some (.int kd (hi : Nat))) (ht : C.T.f t = some ti) (hu : ti.u = .slice el) (hte : C.T.f el = some te) (hhi : hi ≤ cap) :
    RunV C E H ⟨some d, .slice t x none (some y) none, ty, pos, af, gd⟩ (.slice ad hi cap) := fun a w ha => by
  have hT := (C.T.ok t ti ht).u
  rw [hu] at hT
  have hI := (C.T.ok el te hte).runInfo w
  cases ad with
  | none => simp [execOp, ha.1.ev hx, ha.1.ev hy, Instr.sliceAt, Instr.slice, Instr.sliceBounds, Instr.sliceBound, asIntOf, run_underlying hT, hI.1, Result.andThen, hhi]
  | some ad => simp [execOp, ha.1.ev hx, ha.1.ev hy, Instr.sliceAt, Instr.slice, Instr.sliceBounds, Instr.sliceBound, asIntOf, run_underlying hT, hI.1, Result.andThen, hhi, Addr.add]
theorem ownsRow_cut {w : World} {ad : Option Addr} {len cap n sz m : Nat} {cs : List Value} (h : w.ownsRow 0 e sz (.slice ad len cap) n cs) (hm : m ≤ n) : w.ownsRow 0 e sz (.slice ad m cap) m (cs.take (m * sz)) := by
  obtain ⟨hl, h2⟩ := h
  have hmn : m * sz ≤ n * sz := Nat.mul_le_mul_right _ hm
  refine ⟨by rw [List.length_take]; omega, ?_⟩
  rcases h2 with ⟨h', h0⟩ | ⟨g', cap', cur, hv, hb, hh, r1, r2, r3, r4⟩
  · simp only [Value.slice.injEq] at h'
    obtain ⟨rfl, rfl, rfl⟩ := h'
    obtain rfl : m = 0 := by omega
    exact .inl ⟨rfl, rfl⟩
  · simp only [Value.slice.injEq] at hv
    obtain ⟨rfl, rfl, rfl⟩ := hv
    refine .inr ⟨g', cap, cur, rfl, hb, hh, by omega, r2, r3, ?_⟩
    rw [← r4, List.take_take, Nat.min_eq_left hmn]
theorem Sat.cutRow {w0 w : World} {B : Nat} {ad : Option Addr} {len cap n sz m : Nat} {cs : List Value} (h : Sat w0 B (HA.row (.slice ad len cap) e sz n cs :: R) w) (hm : m ≤ n) : Sat w0 B (HA.row (.slice ad m cap) e sz m (cs.take (m * sz)) :: R) w := by
  have hf : (HA.row (.slice ad m cap) e sz m (cs.take (m * sz))).fp = (HA.row (.slice ad len cap) e sz n cs).fp := by
    simp only [HA.row]
    cases ad <;> rfl
  refine ⟨h.below, h.base, by have := h.nodup; rw [fps_cons] at this ⊢; rw [hf]; exact this, fun g hg => h.lo g (by rw [fps_cons] at hg ⊢; rw [← hf]; exact hg), fun X hX => ?_⟩
  rcases List.mem_cons.1 hX with rfl | hX
  · have h1 : w.ownsRow 0 e sz (.slice ad len cap) n cs := h.head
    exact ownsRow_cut h1 hm
  · exact h.all X (by simp [hX])
end n
end Go.Proofs.YtblpgpgbnlhjlaaGreat.Sl
namespace Go.Proofs.YtblpgpgbnlhjlaaGreat.Sl
open Go Go.RowKit
set_option linter.unusedVariables false
set_option linter.unusedSimpArgs false
structure MK where
  g : Nat
  off : Nat
  is : List Int
deriving DecidableEq
def MK.cells (k : MK) : Array Value := (Pv k.g k.off :: k.is.map fun i : Int => Iv i).toArray
abbrev MK.val (k : MK) : Value := .agg k.cells
section eq
variable {P : Program} (T : TyTab P)
end eq
structure ME where
  key : MK
  val : Value
  cells : List Value
def mapAt (w : World) (gm : Nat) (ps : List (MK × Value)) : Prop := ∃ ents clock, w.heap[gm]? = some (.map ents clock) ∧ ents.toList.map (fun x => (x.key, x.val)) = ps.map fun p => (p.1.val, p.2)
abbrev pairsOf (es : List ME) : List (MK × Value) := es.map fun m => (m.key, m.val)
def HA.memo (gm e : Nat) (es : List ME) : HA := ⟨gm :: es.flatMap fun m => m.val.ownBlock.toList, fun w => mapAt w gm (pairsOf es) ∧ ∀ m ∈ es, w.ownsRow 0 e 1 m.val m.cells.length m.cells, fun w w' h hw => by
  obtain ⟨⟨ents, clock, h1, h2⟩, h3⟩ := hw
  exact ⟨⟨ents, clock, (h gm (by simp)).trans h1, h2⟩, fun m hm => ownsRow_loc (fun g hg => h g (List.mem_cons_of_mem _ (List.mem_flatMap.2 ⟨m, hm, hg⟩))) (h3 m hm)⟩⟩
theorem Sat.rules {w0 w : World} {B : Nat} {Hs Hs' R : List HA} (h : Sat w0 B (Hs ++ R) w) (hf : (fps Hs).Perm (fps Hs')) (hA : (∀ X ∈ Hs, X.holds w) → ∀ Y ∈ Hs', Y.holds w) : Sat w0 B (Hs' ++ R) w := by
  have hp : (fps (Hs ++ R)).Perm (fps (Hs' ++ R)) := by rw [fps_append, fps_append]; exact hf.append_right _
  refine ⟨h.below, h.base, hp.nodup_iff.1 h.nodup, fun g hg => h.lo g (hp.mem_iff.2 hg), fun X hX => ?_⟩
  rcases List.mem_append.1 hX with hX | hX
  · exact hA (fun Y hY => h.all Y (by simp [hY])) X hX
  · exact h.all X (by simp [hX])
theorem Sat.memo0 {w0 w : World} {B gm clock : Nat} {R : List HA} (e : Nat) (h : Sat w0 B (HA.blk gm (.map #[] clock) :: R) w) : Sat w0 B (HA.memo gm e [] :: R) w :=
  Sat.rules (Hs := [HA.blk gm (.map #[] clock)]) (Hs' := [HA.memo gm e []]) h (by simp [fps, HA.memo, HA.blk]) (fun hh Y hY => by
    rw [List.mem_singleton] at hY
    subst hY
    exact ⟨⟨#[], clock, hh _ List.mem_cons_self, rfl⟩, fun m hm => by simp at hm⟩)
theorem wps_B (C : Cx) (w1 : World) (B1 : Nat) (Q : Qt) : ∀ cs, wps { C with w0 := w1, B := B1 } cs Q = wps C cs Q
  | [] => rfl
  | c :: cs => by simp only [wps, wps_B C w1 B1 Q cs]
theorem ES.rebase {C : Cx} {cs : List Code} {Q : Qt} {E : Env} {H : List HA} (h : ∀ w1, Sat C.w0 C.B H w1 → ES { C with w0 := w1, B := w1.heap.size } cs Q E []) : ES C cs Q E H := fun a w ha => by
  have h1 := h w ha.2 a w ⟨ha.1, Sat.start w⟩
  rw [wps_B] at h1
  exact h1
section maps
variable {C : Cx} {all : Array Oper} {ops : List Oper} {Q : Qt} {E : Env} {H H' R : List HA} {d ty t t' : Nat} {pos : String} {af : Array Edge} {gd : Option (Nat × Bool)} {x y z : Operand}
theorem RV.loadOldA {ti : TI} {g off j : Nat} {cs vs : List Value} (hx : E.ev x = some (Pv g (off + j))) (ht : C.T.f t = some ti) (hu : ti.agg = true) (hl : ti.size = vs.length) (hpos : 0 < vs.length) (hr : Rd C.w0 C.B (some ⟨g, off, none⟩) cs) (hc : ∀ i u, vs[i]? = some u → cs[j + i]? = some u) : RunV C E H ⟨some d, .load t x, ty, pos, af, gd⟩ (.agg vs.toArray) :=
  RV.loadAgg (cs := vs) hx ht hu hl (fun w hs i u hi => by
    have hci := hc i u hi
    have hne : cs ≠ [] := fun e => by rw [e] at hci; simp at hci
    obtain ⟨g', off', h1, h2, h3⟩ := hr.sat hs hne
    simp only [Option.some.injEq, Addr.mk.injEq] at h1
    obtain ⟨rfl, rfl, _⟩ := h1
    have := h3 (j + i) u hci
    rw [add_n, Nat.add_assoc]
    exact this)
theorem EL.makeMap (e : Nat) (hg : guardOk all E gd = some true) (hd : Nat.blt d C.n = true) (k : ∀ g, EL C all ops Q ((d, .map (some g)) :: E) (HA.memo g e [] :: H)) : EL C all (⟨some d, .makeMap t none, ty, pos, af, gd⟩ :: ops) Q E H := by
  intro a w ha
  simp only [wpListIn, guardOk_wanted (o := ⟨some d, .makeMap t none, ty, pos, af, gd⟩) hg ha.1, if_true]
  refine ⟨fun _ _ => trivial, ?_⟩
  rw [sem_plain (by simp)]
  have hr : (execOp a.eval ⟨some d, .makeMap t none, ty, pos, af, gd⟩).run C.P w = .ok (.value (.map (some w.heap.size))) (w.alloc (.map #[] 0)) := by
    simp [execOp, Instr.makeMap, newObj, Result.andThen]
    rfl
  rw [hr]
  exact k w.heap.size _ _ ⟨ha.1.put (by simpa using hd) _, Sat.memo0 e (ha.2.alloc _)⟩
end maps
end Go.Proofs.YtblpgpgbnlhjlaaGreat.Sl
namespace Go.Proofs.YtblpgpgbnlhjlaaGreat.Sl
open Go Go.RowKit Go.Lib
set_option linter.unusedVariables false
set_option linter.unusedSimpArgs false
section
variable {C : Cx} {all : Array Oper} {ops : List Oper} {Q : Qt} {E : Env} {H : List HA} {d ty t t' g o : Nat} {pos : String} {af : Array Edge} {gd : Option (Nat × Bool)} {x y : Operand}
theorem RV.toUnsafeO {ti tj te : TI} {el : TypeId} {cs : Array Value} {fr : Nat × Nat} {eb : Nat} (hx : E.ev x = some (Pv g o)) (ht : C.T.f t = some ti) (hu : ti.u = .pointer el) (ht' : C.T.f t' = some tj) (hu' : tj.u = .unsafePointer) (hte : C.T.f el = some te) (hz : te.size ≠ 0) (hm : Mem H (HA.blk g (.cells cs eb fr))) (hc : o < cs.size) :
    RunV C E H ⟨some d, .convert t t' x, ty, pos, af, gd⟩ (Pv g o) := fun a w ha => by
  have hT := (C.T.ok t ti ht).u
  rw [hu] at hT
  have hT' := (C.T.ok t' tj ht').u
  rw [hu'] at hT'
  obtain ⟨i, hi, _, hs, _⟩ := (C.T.ok el te hte).info
  have hb : w.heap[g]? = some (.cells cs eb fr) := ha.2.all _ hm.mem
  have := Lib.run_to_unsafe (P := C.P) w (src := t) (dst := t') (⟨g, o, none⟩ : Addr) hT hT' hi (by rw [hs]; exact hz) (e := eb) (cells := cs.size) (by simp [World.shape?, hb]) hc
  simp only [execOp, ha.1.ev hx, Sem.run_bind, Sem.run_pure, this, Result.andThen]
theorem RV.fromUnsafeO {ti tj te : TI} {el : TypeId} {cs : Array Value} {fr : Nat × Nat} {eb : Nat} (hx : E.ev x = some (Pv g o)) (ht : C.T.f t = some ti) (hu : ti.u = .unsafePointer) (ht' : C.T.f t' = some tj) (hu' : tj.u = .pointer el) (hte : C.T.f el = some te) (hm : Mem H (HA.blk g (.cells cs eb fr))) (hl : liesAt C.P C.P.depth eb (cs.size / C.P.cellsOf eb) o el 1 = true) :
    RunV C E H ⟨some d, .convert t t' x, ty, pos, af, gd⟩ (Pv g o) := fun a w ha => by
  have hT := (C.T.ok t ti ht).u
  rw [hu] at hT
  have hT' := (C.T.ok t' tj ht').u
  rw [hu'] at hT'
  obtain ⟨i, hi, _, hs, _⟩ := (C.T.ok el te hte).info
  have hb : w.heap[g]? = some (.cells cs eb fr) := ha.2.all _ hm.mem
  have := Lib.run_from_unsafe (P := C.P) w (src := t) (dst := t') (⟨g, o, none⟩ : Addr) hT hT' hi (e := eb) (cells := cs.size) (by simp [World.shape?, hb]) hl
  simp only [execOp, ha.1.ev hx, Sem.run_bind, Sem.run_pure, this, Result.andThen]
theorem EL.makeMap0 (hg : guardOk all E gd = some true) (hd : Nat.blt d C.n = true) (k : ∀ g, EL C all ops Q ((d, .map (some g)) :: E) (HA.blk g (.map #[] 0) :: H)) : EL C all (⟨some d, .makeMap t none, ty, pos, af, gd⟩ :: ops) Q E H := by
  intro a w ha
  simp only [wpListIn, guardOk_wanted (o := ⟨some d, .makeMap t none, ty, pos, af, gd⟩) hg ha.1, if_true]
  refine ⟨fun _ _ => trivial, ?_⟩
  rw [sem_plain (by simp)]
  have hr : (execOp a.eval ⟨some d, .makeMap t none, ty, pos, af, gd⟩).run C.P w = .ok (.value (.map (some w.heap.size))) (w.alloc (.map #[] 0)) := by
    simp [execOp, Instr.makeMap, newObj, Result.andThen]
    rfl
  rw [hr]
  exact k w.heap.size _ _ ⟨ha.1.put (by simpa using hd) _, ha.2.alloc _⟩
theorem run_equal_mn {P : Program} {t kt et : Nat} (hT : P.underlying t = some (.map kt et)) (m : Nat) (w : World) : (Op.equal t (.map (some m)) (.map none)).run P w = .ok false w := by
  have key : ∀ d, (Op.equalIn (d + 1) t (.map (some m)) (.map none)).run P w = .ok false w := fun d => by
    simp only [Op.equalIn, Sem.run_bind, run_underlying hT, Result.andThen, Sem.run_pure]
  exact key 9999
theorem EL.eqlMn {m : Nat} {ti : TI} {kt et : TypeId} (hg : guardOk all E gd = some true) (hx : E.ev x = some (.map (some m))) (hy : E.ev y = some (.map none)) (ht : C.T.f t = some ti) (hu : ti.u = .map kt et) (hd : Nat.blt d C.n = true) (k : EL C all ops Q ((d, .bool false) :: E) H) : EL C all (⟨some d, .binOp .eql t x y t', ty, pos, af, gd⟩ :: ops) Q E H :=
  EL.val _ hg rfl hd (by simp) (fun ac w ha => by
    have hT := (C.T.ok t ti ht).u
    rw [hu] at hT
    simp only [execOp, ha.1.ev hx, ha.1.ev hy, eqGuard, binOp, Sem.run_bind, Sem.run_pure, run_equal_mn hT m, Result.andThen]
    rfl) k
end
end Go.Proofs.YtblpgpgbnlhjlaaGreat.Sl
namespace Go.Proofs.YtblpgpgbnlhjlaaGreat
open Go Go.RowKit Sl
set_option maxRecDepth 100000
set_option maxHeartbeats 8000000
set_option linter.unusedVariables false
set_option linter.unusedSimpArgs false
attribute [local irreducible] ES EL PX wps
def zeroS : BS := ⟨0, 0, 0, 0⟩
def bitW (b : Nat) : UInt64 := 1 <<< UInt64.ofNat (b % 64)
def addS (s : BS) (b : Nat) : BS := s.set (b / 64) (s.get (b / 64) ||| bitW b)
def hasS (s : BS) (b : Nat) : Bool := decide ((((s.get (b / 64) >>> UInt64.ofNat (b % 64)) &&& 1).toNat : Int) = 1)
def ofS (l : List UInt8) : BS := l.foldl (fun s b => addS s b.toNat) zeroS
def joinS (f : UInt64 → UInt64 → UInt64) (s t : BS) : BS := ⟨f s.a t.a, f s.b t.b, f s.c t.c, f s.d t.d⟩
def notS (s : BS) : BS := joinS (fun x _ => ~~~x) s s
def orS (s t : BS) : BS := joinS (fun x y => x ||| y) s t
def fillS (p : Nat → Bool) : Nat → BS
  | 0 => zeroS
  | n + 1 => if p n then addS (fillS p n) n else fillS p n
theorem bit_get (x : UInt64) (j : Nat) (hj : j < 64) : decide ((((x >>> UInt64.ofNat j) &&& 1).toNat : Int) = 1) = x.toNat.testBit j := by
  rw [UInt64.toNat_and, UInt64.toNat_shiftRight, UInt64.toNat_ofNat_of_lt' (by simp only [UInt64.size]; omega), Nat.mod_eq_of_lt hj]
  rw [show (1 : UInt64).toNat = 1 from rfl, Nat.and_one_is_mod, Nat.testBit_eq_decide_div_mod_eq, Nat.shiftRight_eq_div_pow]
  apply decide_eq_decide.2
  omega
theorem hasS_bit (s : BS) (b : Nat) : hasS s b = (s.get (b / 64)).toNat.testBit (b % 64) := bit_get _ _ (Nat.mod_lt _ (by omega))
theorem bitW_bit (b j : Nat) (hj : j < 64) : (bitW b).toNat.testBit j = decide (j = b % 64) := by
  have hb : b % 64 < 64 := Nat.mod_lt _ (by omega)
  unfold bitW
  rw [UInt64.toNat_shiftLeft, UInt64.toNat_ofNat_of_lt' (by simp only [UInt64.size]; omega), Nat.mod_eq_of_lt hb, show (1 : UInt64).toNat = 1 from rfl, Nat.testBit_mod_two_pow, Nat.one_shiftLeft, Nat.testBit_two_pow]
  simp [hj]
  exact eq_comm
theorem get_set (s : BS) (i k : Nat) (hi : i < 4) (hk : k < 4) (x : UInt64) : (s.set i x).get k = if i = k then x else s.get k := by
  match i, k, hi, hk with
  | 0, 0, _, _ | 0, 1, _, _ | 0, 2, _, _ | 0, 3, _, _ => rfl
  | 1, 0, _, _ | 1, 1, _, _ | 1, 2, _, _ | 1, 3, _, _ => rfl
  | 2, 0, _, _ | 2, 1, _, _ | 2, 2, _, _ | 2, 3, _, _ => rfl
  | 3, 0, _, _ | 3, 1, _, _ | 3, 2, _, _ | 3, 3, _, _ => rfl
theorem has_add (s : BS) (b k : Nat) (hb : b < 256) (hk : k < 256) : hasS (addS s b) k = (hasS s k || decide (k = b)) := by
  rw [hasS_bit, hasS_bit, addS, get_set _ _ _ (by omega) (by omega)]
  by_cases h : b / 64 = k / 64
  · rw [if_pos h, UInt64.toNat_or, Nat.testBit_or, bitW_bit _ _ (Nat.mod_lt _ (by omega)), h]
    congr 1
    apply decide_eq_decide.2
    omega
  · rw [if_neg h]
    have : decide (k = b) = false := decide_eq_false (by omega)
    rw [this, Bool.or_false]
theorem has_zero (k : Nat) : hasS zeroS k = false := by
  rw [hasS_bit]
  have : (zeroS.get (k / 64)).toNat = 0 := by
    unfold zeroS BS.get
    split <;> rfl
  rw [this, Nat.zero_testBit]
theorem bs_word (x y : UInt64) (h : ∀ j, j < 64 → x.toNat.testBit j = y.toNat.testBit j) : x = y := by
  apply UInt64.toNat_inj.1
  apply Nat.eq_of_testBit_eq
  intro j
  by_cases hj : j < 64
  · exact h j hj
  · have hx : x.toNat < 2 ^ j := Nat.lt_of_lt_of_le x.toNat_lt (Nat.pow_le_pow_right (by omega) (by omega))
    have hy : y.toNat < 2 ^ j := Nat.lt_of_lt_of_le y.toNat_lt (Nat.pow_le_pow_right (by omega) (by omega))
    rw [Nat.testBit_lt_two_pow hx, Nat.testBit_lt_two_pow hy]
theorem bs_ext (s t : BS) (h : ∀ k, k < 256 → hasS s k = hasS t k) : s = t := by
  have hw : ∀ i, i < 4 → s.get i = t.get i := fun i hi => bs_word _ _ fun j hj => by
    have := h (64 * i + j) (by omega)
    rw [hasS_bit, hasS_bit] at this
    rw [show (64 * i + j) / 64 = i by omega, show (64 * i + j) % 64 = j by omega] at this
    exact this
  obtain ⟨a, b, c, d⟩ := s
  obtain ⟨a', b', c', d'⟩ := t
  have h0 : a = a' := hw 0 (by omega)
  have h1 : b = b' := hw 1 (by omega)
  have h2 : c = c' := hw 2 (by omega)
  have h3 : d = d' := hw 3 (by omega)
  rw [h0, h1, h2, h3]
theorem has_fill (p : Nat → Bool) (k : Nat) (hk : k < 256) : ∀ n, n ≤ 256 → hasS (fillS p n) k = (p k && decide (k < n))
  | 0, _ => by rw [fillS, has_zero]; simp
  | n + 1, hn => by
    rw [fillS]
    have ih := has_fill p k hk n (by omega)
    split
    · rename_i hp
      rw [has_add _ _ _ (by omega) hk, ih]
      by_cases h : k = n
      · subst h; simp [hp]
      · have : (k < n + 1) ↔ k < n := by omega
        simp [h, this]
    · rename_i hp
      rw [ih]
      by_cases h : k = n
      · subst h; simp [hp]
      · have : (k < n + 1) ↔ k < n := by omega
        simp [this]
theorem fill_eq (p : Nat → Bool) (s : BS) (h : ∀ k, k < 256 → hasS s k = p k) : fillS p 256 = s := bs_ext _ _ fun k hk => by
  rw [has_fill p k hk 256 (by omega), h k hk]; simp [hk]
def spanGo (lo : Nat) : Nat → BS
  | 0 => zeroS
  | n + 1 => addS (spanGo lo n) (lo + n)
def spanM (lo hi : UInt8) : BS × Int := if hi.toNat < lo.toNat then (zeroS, 7) else (fillS (fun b => decide (lo.toNat ≤ b) && decide (b ≤ hi.toNat)) 256, 0)
theorem has_span (lo k : Nat) (hk : k < 256) : ∀ n, lo + n ≤ 256 → hasS (spanGo lo n) k = decide (lo ≤ k ∧ k < lo + n)
  | 0, _ => by rw [spanGo, has_zero]; symm; exact decide_eq_false (by omega)
  | n + 1, h => by
    rw [spanGo, has_add _ _ _ (by omega) hk, has_span lo k hk n (by omega), Bool.eq_iff_iff]
    simp only [Bool.or_eq_true, decide_eq_true_eq]
    omega
theorem span_eq (lo hi : UInt8) (h : lo.toNat ≤ hi.toNat) : spanGo lo.toNat (hi.toNat + 1 - lo.toNat) = fillS (fun b => decide (lo.toNat ≤ b) && decide (b ≤ hi.toNat)) 256 := by
  have := hi.toNat_lt
  refine (fill_eq _ _ fun k hk => ?_).symm
  rw [has_span _ _ hk _ (by omega), Bool.eq_iff_iff]
  simp only [Bool.and_eq_true, decide_eq_true_eq]
  omega
def partJ (f : UInt64 → UInt64 → UInt64) (s t : BS) (i : Nat) : BS := ⟨if 0 < i then f s.a t.a else 0, if 1 < i then f s.b t.b else 0, if 2 < i then f s.c t.c else 0, if 3 < i then f s.d t.d else 0⟩
theorem partJ_step (f : UInt64 → UInt64 → UInt64) (s t : BS) (i : Nat) (hi : i < 4) : (partJ f s t i).set i (f (s.get i) (t.get i)) = partJ f s t (i + 1) := by
  match i, hi with
  | 0, _ | 1, _ | 2, _ | 3, _ => rfl
abbrev nAlpha : List UInt8 := [97, 108, 112, 104, 97]
abbrev nDigit : List UInt8 := [100, 105, 103, 105, 116]
abbrev nAlnum : List UInt8 := [97, 108, 110, 117, 109]
abbrev nUpper : List UInt8 := [117, 112, 112, 101, 114]
abbrev nLower : List UInt8 := [108, 111, 119, 101, 114]
abbrev nSpace : List UInt8 := [115, 112, 97, 99, 101]
abbrev nBlank : List UInt8 := [98, 108, 97, 110, 107]
abbrev nGraph : List UInt8 := [103, 114, 97, 112, 104]
abbrev nPrint : List UInt8 := [112, 114, 105, 110, 116]
abbrev nPunct : List UInt8 := [112, 117, 110, 99, 116]
abbrev nCntrl : List UInt8 := [99, 110, 116, 114, 108]
abbrev nXdigit : List UInt8 := [120, 100, 105, 103, 105, 116]
def bUp (b : Nat) : Bool := decide (65 ≤ b ∧ b ≤ 90)
def bLo (b : Nat) : Bool := decide (97 ≤ b ∧ b ≤ 122)
def bDi (b : Nat) : Bool := decide (48 ≤ b ∧ b ≤ 57)
def bGr (b : Nat) : Bool := decide (32 < b ∧ b < 127)
def isB (l : List UInt8) (b : Nat) : Bool :=
  if l = nAlpha then decide ((65 ≤ b ∧ b ≤ 90) ∨ (97 ≤ b ∧ b ≤ 122)) else if l = nDigit then decide (48 ≤ b ∧ b ≤ 57)
  else if l = nAlnum then decide ((65 ≤ b ∧ b ≤ 90) ∨ (97 ≤ b ∧ b ≤ 122) ∨ (48 ≤ b ∧ b ≤ 57)) else if l = nUpper then decide (65 ≤ b ∧ b ≤ 90)
  else if l = nLower then decide (97 ≤ b ∧ b ≤ 122) else if l = nSpace then decide (b = 32 ∨ (9 ≤ b ∧ b ≤ 13)) else if l = nBlank then decide (b = 32 ∨ b = 9)
  else if l = nGraph then decide (32 < b ∧ b < 127) else if l = nPrint then decide ((32 < b ∧ b < 127) ∨ b = 32)
  else if l = nPunct then decide ((32 < b ∧ b < 127) ∧ ¬ (65 ≤ b ∧ b ≤ 90) ∧ ¬ (97 ≤ b ∧ b ≤ 122) ∧ ¬ (48 ≤ b ∧ b ≤ 57))
  else if l = nCntrl then decide (b < 32 ∨ b = 127) else if l = nXdigit then decide ((48 ≤ b ∧ b ≤ 57) ∨ (65 ≤ b ∧ b ≤ 70) ∨ (97 ≤ b ∧ b ≤ 102)) else false
def names12 : List (List UInt8) := [nAlpha, nDigit, nAlnum, nUpper, nLower, nSpace, nBlank, nGraph, nPrint, nPunct, nCntrl, nXdigit]
def okM (l : List UInt8) : Bool := decide (l ∈ names12)
def classM (l : List UInt8) : BS × Int := if okM l then (fillS (isB l) 256, 0) else (zeroS, 8)
end Go.Proofs.YtblpgpgbnlhjlaaGreat
namespace Go.Proofs.YtblpgpgbnlhjlaaGreat
open Go Go.RowKit Sl
set_option maxRecDepth 100000
set_option maxHeartbeats 8000000
set_option linter.unusedVariables false
set_option linter.unusedSimpArgs false
attribute [local irreducible] ES EL PX wps
abbrev SB (g : Nat) (s : BS) : HA := HA.blk g (.cells s.cells 43)
theorem take_snoc {α : Type} (l : List α) (i : Nat) (d : α) (h : i < l.length) : l.take (i + 1) = l.take i ++ [l.getD i d] := by
  rw [List.take_succ_eq_append_getElem h, List.getD_eq_getElem?_getD, List.getElem?_eq_getElem h]; rfl
theorem ofS_step (l : List UInt8) (i : Nat) (h : i < l.length) : addS (ofS (l.take i)) (l.getD i 0).toNat = ofS (l.take (i + 1)) := by
  rw [take_snoc l i 0 h]; simp [ofS, List.foldl_append]
theorem add_c (g : Nat) (s : BS) (b : UInt8) : Mut Tryz.prog 149 #[Pv g 0, Uv b] [SB g s] (fun _ : Unit => .tuple #[]) (fun _ => [SB g (addS s b.toNat)]) := by
  intro w0 B R w h
  have hb := b.toNat_lt
  obtain ⟨x0, x1, x2, x3⟩ := s
  replace h : Sat w0 B (SB g ⟨x0, x1, x2, x3⟩ :: R) w := h
  refine calls_of_ES TB Tryz.func149 rfl _ Tryz.ntmps149 rfl h ?_
  refine ES.draw (X := Unit) (fun _ => []) (fun _ => SB g (addS ⟨x0, x1, x2, x3⟩ b.toNat) :: R) [SB g ⟨x0, x1, x2, x3⟩] mixed (.i (by repeat constructor)) ?_ (fun _ => ?_)
  · refine ED.take 0 rfl (by decide +kernel) CutX.no_panic (by decide +kernel) rfl rfl rfl (RV.move rfl) ?_
    refine ED.take 1 rfl (by decide +kernel) CutX.no_panic (by decide +kernel) rfl rfl rfl (RV.move rfl) ?_
    refine ED.take 2 rfl (by decide +kernel) CutX.no_panic (by decide +kernel) rfl rfl rfl (RV.quoU (n := 64) rfl rfl (by omega) (by simp only [kmax]; omega)) ?_
    refine ED.take 3 rfl (by decide +kernel) CutX.no_panic (by decide +kernel) rfl rfl rfl (RV.nilCheck rfl) ?_
    refine ED.take 4 rfl (by decide +kernel) CutX.no_panic (by decide +kernel) rfl rfl rfl (RV.indexAddrA1 rfl rfl rfl rfl rfl rfl (by omega)) ?_
    refine ED.take 5 rfl (by decide +kernel) CutX.no_panic (by decide +kernel) rfl rfl rfl (RV.loadBS rfl rfl rfl (by repeat constructor) (by omega)) ?_
    refine ED.take 6 rfl (by decide +kernel) CutX.no_panic (by decide +kernel) rfl rfl rfl (RV.move rfl) ?_
    refine ED.take 7 rfl (by decide +kernel) CutX.no_panic (by decide +kernel) rfl rfl rfl (RV.remN (n := 64) rfl rfl (by omega)) ?_
    refine ED.take 8 rfl (by decide +kernel) CutX.no_panic (by decide +kernel) rfl rfl rfl (RV.shlW (a := 1) rfl rfl rfl (by omega)) ?_
    refine ED.take 9 rfl (by decide +kernel) CutX.no_panic (by decide +kernel) rfl rfl rfl (RV.orW rfl rfl rfl rfl) ?_
    refine ED.take 10 rfl (by decide +kernel) CutX.no_panic (by decide +kernel) rfl rfl rfl (RV.nilCheck rfl) ?_
    refine ED.take 11 rfl (by decide +kernel) CutX.no_panic (by decide +kernel) rfl rfl rfl (RV.indexAddrA1 rfl rfl rfl rfl rfl rfl (by omega)) ?_
    refine ED.last 12 rfl (by decide +kernel) (by decide +kernel) (by decide +kernel) ?_
    refine EL.storeBS rfl rfl rfl rfl rfl (by repeat constructor) (by omega) ?_
    refine EL.endQ ?_
    exact PX.cutX () trivial (.i (by repeat constructor))
  refine .go ?_; repeat constructor
  exact PX.end rfl Tryz.results149 .nil (fun w hs => ⟨(), rfl, hs.ent (.i (by repeat constructor))⟩)
theorem of_c (l : List UInt8) (hl : l.length ≤ 4611686018427387904) (w : World) : Pure Tryz.prog 132 #[Sv l] (fun _ : Unit => Bs (ofS l)) (fun _ => []) w := by
  refine calls_of_ES TB Tryz.func132 rfl _ Tryz.ntmps132 rfl (Sat.start w) ?_
  refine .go ?_; repeat constructor
  (refine EL.alloc rfl rfl rfl ?_; intro g2)
  refine .go ?_; repeat constructor
  (refine EL.alloc rfl rfl rfl ?_; intro g3)
  refine .go ?_; repeat constructor
  refine EL.move rfl rfl rfl ?_
  refine EL.lenS rfl rfl rfl rfl rfl ?_
  refine EL.move rfl rfl rfl ?_
  refine .go ?_; repeat constructor
  refine ES.loop (σ := Nat) (fun i => i ≤ l.length) (fun i => [(0, Sv l), (2, Pv g2 0), (3, Pv g3 0), (6, Iv l.length), (7, Iv i)]) (fun i => [SB g3 (ofS (l.take i)), SB g2 zeroS]) (fun i => l.length - i) 0 (Nat.zero_le _) ⟨rfl, rfl, rfl, rfl, rfl, trivial⟩ (.i (by repeat constructor)) ?_
  intro i hi
  refine .go ?_; repeat constructor
  refine EL.lss rfl rfl rfl rfl ?_
  refine .go ?_; repeat constructor
  refine ES.condD rfl (fun hlt => ?_) (fun hge => ?_)
  · have hlt' : i < l.length := by omega
    have hst := ofS_step l i hlt'
    refine .go ?_; repeat constructor
    refine EL.move rfl rfl rfl ?_
    refine EL.assign rfl rfl rfl ?_
    refine .go ?_; repeat constructor
    refine EL.move rfl rfl rfl ?_
    refine EL.move rfl rfl rfl ?_
    refine EL.indexSN rfl rfl rfl rfl rfl rfl (by omega) ?_
    refine EL.callM1 rfl rfl rfl ent149 rfl (add_c g3 (ofS (l.take i)) (l.getD i 0)) (by repeat constructor) ?_
    refine .go ?_; repeat constructor
    rw [hst]
    refine .go ?_; repeat constructor
    refine EL.add1 rfl rfl rfl rfl (by omega) ?_
    refine EL.move rfl rfl rfl ?_
    refine .go ?_; repeat constructor
    exact PX.loop (i + 1) (by omega) (by omega) ⟨rfl, rfl, rfl, rfl, rfl, trivial⟩ (.i (by repeat constructor))
  obtain rfl : i = l.length := by omega
  rw [List.take_length]
  refine .go ?_; repeat constructor
  (apply EL.loadAggB; exact rfl; exact rfl; exact rfl; exact rfl; exact rfl; (case hm => repeat constructor); exact rfl)
  (apply EL.storeAll; exact rfl; exact rfl; exact rfl; exact rfl; exact rfl; (case p => repeat constructor); exact rfl; (case h1 => exact (by first | rfl | exact all1 rfl | (intro u hu; simp only [List.mem_cons, List.not_mem_nil, or_false] at hu; rcases hu with rfl | rfl | rfl | rfl <;> rfl) | (intro u hu; simp at hu; rcases hu with rfl | rfl | rfl | rfl <;> rfl) | (intro u hu; simp at hu; rcases hu with rfl | rfl | rfl <;> rfl) | (intro u hu; simp at hu; rcases hu with rfl | rfl <;> rfl) | (intro u hu; simp at hu; obtain ⟨_, _, rfl⟩ := hu; rfl))))
  refine .go ?_; repeat constructor
  exact PX.ret rfl Tryz.results132 (.cons (.blkA rfl rfl rfl (by repeat constructor) rfl) .nil) (fun w hs => ⟨(), rfl, hs.ent (.nil _)⟩)
theorem span_c (lo hi : UInt8) (w : World) : Pure Tryz.prog 148 #[Uv lo, Uv hi] (fun _ : Unit => .tuple #[Bs (spanM lo hi).1, Iv (spanM lo hi).2]) (fun _ => []) w := by
  have hl := lo.toNat_lt
  have hh := hi.toNat_lt
  refine calls_of_ES TB Tryz.func148 rfl _ Tryz.ntmps148 rfl (Sat.start w) ?_
  refine .go ?_; repeat constructor
  (refine EL.alloc rfl rfl rfl ?_; intro g4)
  refine EL.assign rfl rfl rfl ?_
  refine .go ?_; repeat constructor
  (refine EL.alloc rfl rfl rfl ?_; intro g6)
  refine .go ?_; repeat constructor
  refine EL.move rfl rfl rfl ?_
  refine EL.move rfl rfl rfl ?_
  refine EL.lss rfl rfl rfl rfl ?_
  refine .go ?_; repeat constructor
  refine ES.condD rfl (fun hlt => ?_) (fun hge => ?_)
  · have hm : spanM lo hi = (zeroS, 7) := by simp only [spanM]; rw [if_pos (by omega)]
    refine .go ?_; repeat constructor
    (apply EL.loadAggB; exact rfl; exact rfl; exact rfl; exact rfl; exact rfl; (case hm => repeat constructor); exact rfl)
    (apply EL.storeAll; exact rfl; exact rfl; exact rfl; exact rfl; exact rfl; (case p => repeat constructor); exact rfl; (case h1 => exact (by first | rfl | exact all1 rfl | (intro u hu; simp only [List.mem_cons, List.not_mem_nil, or_false] at hu; rcases hu with rfl | rfl | rfl | rfl <;> rfl) | (intro u hu; simp at hu; rcases hu with rfl | rfl | rfl | rfl <;> rfl) | (intro u hu; simp at hu; rcases hu with rfl | rfl | rfl <;> rfl) | (intro u hu; simp at hu; rcases hu with rfl | rfl <;> rfl) | (intro u hu; simp at hu; obtain ⟨_, _, rfl⟩ := hu; rfl))))
    refine EL.assign rfl rfl rfl ?_
    refine .go ?_; repeat constructor
    exact PX.ret rfl Tryz.results148 (.cons (.blkA rfl rfl rfl (by repeat constructor) rfl) (.cons (.tmp rfl) .nil)) (fun w hs => ⟨(), by rw [hm]; rfl, hs.ent (.nil _)⟩)
  have hle : lo.toNat ≤ hi.toNat := by omega
  have hm : spanM lo hi = (spanGo lo.toNat (hi.toNat + 1 - lo.toNat), 0) := by simp only [spanM]; rw [if_neg (by omega), span_eq lo hi hle]
  refine .go ?_; repeat constructor
  refine EL.move rfl rfl rfl ?_
  refine EL.convN rfl rfl rfl rfl rfl rfl (le_big8 _ _) ?_
  refine EL.assign rfl rfl rfl ?_
  refine .go ?_; repeat constructor
  refine ES.loop (σ := Nat) (fun n => lo.toNat + n ≤ hi.toNat + 1) (fun n => [(1, Uv hi), (4, Pv g4 0), (6, Pv g6 0), (7, Iv ((lo.toNat + n : Nat) : Int))]) (fun n => [SB g6 (spanGo lo.toNat n), SB g4 zeroS]) (fun n => hi.toNat + 1 - (lo.toNat + n)) 0 (by omega) ⟨rfl, rfl, rfl, rfl, trivial⟩ (.i (by repeat constructor)) ?_
  intro n hn
  refine .go ?_; repeat constructor
  refine EL.move rfl rfl rfl ?_
  refine EL.move rfl rfl rfl ?_
  refine EL.convN rfl rfl rfl rfl rfl rfl (le_big8 _ _) ?_
  refine EL.leq rfl rfl rfl rfl ?_
  refine .go ?_; repeat constructor
  refine ES.condD rfl (fun hlt2 => ?_) (fun hge2 => ?_)
  · have hk : lo.toNat + n < 256 := by omega
    have hk8 : (UInt8.ofNat (lo.toNat + n)).toNat = lo.toNat + n := by simp; omega
    have hc := add_c g6 (spanGo lo.toNat n) (UInt8.ofNat (lo.toNat + n))
    rw [show addS (spanGo lo.toNat n) (UInt8.ofNat (lo.toNat + n)).toNat = spanGo lo.toNat (n + 1) by rw [hk8]; rfl] at hc
    refine .go ?_; repeat constructor
    refine EL.move rfl rfl rfl ?_
    refine EL.convI ((UInt8.ofNat (lo.toNat + n)).toNat : Int) rfl rfl rfl rfl rfl rfl (by rw [hk8]; exact wrap_u8 _ hk) ?_
    refine EL.callM1 rfl rfl rfl ent149 rfl hc (by repeat constructor) ?_
    refine .go ?_; repeat constructor
    refine EL.move rfl rfl rfl ?_
    refine EL.add1 rfl rfl rfl rfl (by omega) ?_
    refine EL.assign rfl rfl rfl ?_
    refine .go ?_; repeat constructor
    exact PX.loop (n + 1) (by omega) (by omega) ⟨rfl, rfl, rfl, rfl, trivial⟩ (.i (by repeat constructor))
  have he : n = hi.toNat + 1 - lo.toNat := by omega
  subst he
  refine .go ?_; repeat constructor
  (apply EL.loadAggB; exact rfl; exact rfl; exact rfl; exact rfl; exact rfl; (case hm => repeat constructor); exact rfl)
  (apply EL.storeAll; exact rfl; exact rfl; exact rfl; exact rfl; exact rfl; (case p => repeat constructor); exact rfl; (case h1 => exact (by first | rfl | exact all1 rfl | (intro u hu; simp only [List.mem_cons, List.not_mem_nil, or_false] at hu; rcases hu with rfl | rfl | rfl | rfl <;> rfl) | (intro u hu; simp at hu; rcases hu with rfl | rfl | rfl | rfl <;> rfl) | (intro u hu; simp at hu; rcases hu with rfl | rfl | rfl <;> rfl) | (intro u hu; simp at hu; rcases hu with rfl | rfl <;> rfl) | (intro u hu; simp at hu; obtain ⟨_, _, rfl⟩ := hu; rfl))))
  refine EL.assign rfl rfl rfl ?_
  refine .go ?_; repeat constructor
  exact PX.ret rfl Tryz.results148 (.cons (.blkA rfl rfl rfl (by repeat constructor) rfl) (.cons (.tmp rfl) .nil)) (fun w hs => ⟨(), by rw [hm]; rfl, hs.ent (.nil _)⟩)
theorem has_c (s : BS) (b : UInt8) (w : World) : Pure Tryz.prog 111 #[Bs s, Uv b] (fun _ : Unit => .bool (hasS s b.toNat)) (fun _ => []) w := by
  have hb := b.toNat_lt
  refine calls_of_ES TB Tryz.func111 rfl _ Tryz.ntmps111 rfl (Sat.start w) ?_
  refine .go ?_; repeat constructor
  (refine EL.box rfl rfl rfl ?_; intro g2)
  refine EL.assign rfl rfl rfl ?_
  refine .go ?_; repeat constructor
  refine EL.move rfl rfl rfl ?_
  refine EL.ofRV (RV.quoU (n := 64) rfl rfl (by omega) (by simp only [kmax]; omega)) rfl rfl rfl (by intro c h; cases h) ?_
  refine EL.indexAddrA1 rfl rfl rfl rfl rfl rfl rfl rfl (by omega) ?_
  refine EL.loadBS rfl rfl rfl rfl rfl (by repeat constructor) (by omega) ?_
  refine EL.move rfl rfl rfl ?_
  refine EL.remN (n := 64) rfl rfl rfl rfl (by omega) ?_
  refine EL.ofRV (RV.shrW rfl rfl rfl (by omega)) rfl rfl rfl (by intro c h; cases h) ?_
  refine EL.ofRV (RV.andW (b := 1) rfl rfl rfl rfl) rfl rfl rfl (by intro c h; cases h) ?_
  refine EL.eqlI rfl rfl rfl rfl ?_
  refine EL.assign rfl rfl rfl ?_
  refine .go ?_; repeat constructor
  exact PX.ret rfl Tryz.results111 (.cons (.tmp rfl) .nil) (fun w hs => ⟨(), rfl, hs.ent (.nil _)⟩)
theorem join_c (fw : Nat) (op : UInt64 → UInt64 → UInt64) (he : Enters Tryz.prog fw) (hc : ∀ x y w, Pure Tryz.prog fw #[Wv x, Wv y] (fun _ : Unit => Wv (op x y)) (fun _ => []) w) (s t : BS) (w : World) :
    Pure Tryz.prog 112 #[Bs s, Bs t, .func (.func fw) #[] #[]] (fun _ : Unit => Bs (joinS op s t)) (fun _ => []) w := by
  refine calls_of_ES TB Tryz.func112 rfl _ Tryz.ntmps112 rfl (Sat.start w) ?_
  refine .go ?_; repeat constructor
  (refine EL.box rfl rfl rfl ?_; intro g3)
  (refine EL.box rfl rfl rfl ?_; intro g4)
  (refine EL.alloc rfl rfl rfl ?_; intro g6)
  refine .go ?_; repeat constructor
  (refine EL.alloc rfl rfl rfl ?_; intro g7)
  refine .go ?_; repeat constructor
  refine EL.move rfl rfl rfl ?_
  refine .go ?_; repeat constructor
  refine ES.loop (σ := Nat) (fun i => i ≤ 4) (fun i => [(2, .func (.func fw) #[] #[]), (3, Pv g3 0), (4, Pv g4 0), (6, Pv g6 0), (7, Pv g7 0), (9, Iv i)]) (fun i => [SB g7 (partJ op s t i), SB g6 zeroS, SB g4 t, SB g3 s]) (fun i => 4 - i) 0 (by omega) ⟨rfl, rfl, rfl, rfl, rfl, rfl, trivial⟩ (.i (by repeat constructor)) ?_
  intro i hi
  refine .go ?_; repeat constructor
  refine EL.lss rfl rfl rfl rfl ?_
  refine .go ?_; repeat constructor
  refine ES.condD rfl (fun hlt => ?_) (fun hge => ?_)
  · have hlt' : i < 4 := by omega
    have hst := partJ_step op s t i hlt'
    refine .go ?_; repeat constructor
    refine EL.move rfl rfl rfl ?_
    refine EL.assign rfl rfl rfl ?_
    refine .go ?_; repeat constructor
    refine ES.draw (X := Unit) (fun _ => [(2, .func (.func fw) #[] #[]), (3, Pv g3 0), (4, Pv g4 0), (6, Pv g6 0), (7, Pv g7 0), (9, Iv i)]) (fun _ => [SB g7 (partJ op s t (i + 1)), SB g6 zeroS, SB g4 t, SB g3 s]) [SB g4 t, SB g3 s] mixed (.i (by repeat constructor)) ?_ (fun _ => ?_)
    · rw [← hst]
      refine ED.take 0 rfl (by decide +kernel) CutX.no_panic (by decide +kernel) rfl rfl rfl (RV.move rfl) ?_
      refine ED.take 1 rfl (by decide +kernel) CutX.no_panic (by decide +kernel) rfl rfl rfl (RV.move rfl) ?_
      refine ED.take 2 rfl (by decide +kernel) CutX.no_panic (by decide +kernel) rfl rfl rfl (RV.move rfl) ?_
      refine ED.take 3 rfl (by decide +kernel) CutX.no_panic (by decide +kernel) rfl rfl rfl (RV.indexAddrA1 rfl rfl rfl rfl rfl rfl (by omega)) ?_
      refine ED.take 4 rfl (by decide +kernel) CutX.no_panic (by decide +kernel) rfl rfl rfl (RV.loadBS (w0 := s.a) (w1 := s.b) (w2 := s.c) (w3 := s.d) rfl rfl rfl (by repeat constructor) hlt') ?_
      refine ED.take 5 rfl (by decide +kernel) CutX.no_panic (by decide +kernel) rfl rfl rfl (RV.move rfl) ?_
      refine ED.take 6 rfl (by decide +kernel) CutX.no_panic (by decide +kernel) rfl rfl rfl (RV.indexAddrA1 rfl rfl rfl rfl rfl rfl (by omega)) ?_
      refine ED.take 7 rfl (by decide +kernel) CutX.no_panic (by decide +kernel) rfl rfl rfl (RV.loadBS (w0 := t.a) (w1 := t.b) (w2 := t.c) (w3 := t.d) rfl rfl rfl (by repeat constructor) hlt') ?_
      refine ED.loud 8 rfl (by decide +kernel) ?_
      refine EL.callP rfl rfl rfl he rfl (hc (s.get i) (t.get i)) ?_
      refine ED.next (.i (by repeat constructor)) ?_
      refine ED.take 9 rfl (by decide +kernel) CutX.no_panic (by decide +kernel) rfl rfl rfl (RV.indexAddrA1 rfl rfl rfl rfl rfl rfl (by omega)) ?_
      refine ED.last 10 rfl (by decide +kernel) (by decide +kernel) (by decide +kernel) ?_
      refine EL.storeBS rfl rfl rfl rfl rfl (by repeat constructor) hlt' ?_
      refine EL.endQ ?_
      exact PX.cutX () ⟨rfl, rfl, rfl, rfl, rfl, rfl, trivial⟩ (.i (by repeat constructor))
    refine .go ?_; repeat constructor
    refine EL.add1 rfl rfl rfl rfl (by omega) ?_
    refine EL.move rfl rfl rfl ?_
    refine .go ?_; repeat constructor
    exact PX.loop (i + 1) (by omega) (by omega) ⟨rfl, rfl, rfl, rfl, rfl, rfl, trivial⟩ (.i (by repeat constructor))
  obtain rfl : i = 4 := by omega
  refine .go ?_; repeat constructor
  (apply EL.loadAggB; exact rfl; exact rfl; exact rfl; exact rfl; exact rfl; (case hm => repeat constructor); exact rfl)
  (apply EL.storeAll; exact rfl; exact rfl; exact rfl; exact rfl; exact rfl; (case p => repeat constructor); exact rfl; (case h1 => exact (by first | rfl | exact all1 rfl | (intro u hu; simp only [List.mem_cons, List.not_mem_nil, or_false] at hu; rcases hu with rfl | rfl | rfl | rfl <;> rfl) | (intro u hu; simp at hu; rcases hu with rfl | rfl | rfl | rfl <;> rfl) | (intro u hu; simp at hu; rcases hu with rfl | rfl | rfl <;> rfl) | (intro u hu; simp at hu; rcases hu with rfl | rfl <;> rfl) | (intro u hu; simp at hu; obtain ⟨_, _, rfl⟩ := hu; rfl))))
  refine .go ?_; repeat constructor
  exact PX.ret rfl Tryz.results112 (.cons (.blkA rfl rfl rfl (by repeat constructor) rfl) .nil) (fun w hs => ⟨(), rfl, hs.ent (.nil _)⟩)
theorem not1_c (x y : UInt64) (w : World) : Pure Tryz.prog 113 #[Wv x, Wv y] (fun _ : Unit => Wv (~~~x)) (fun _ => []) w := by
  refine calls_of_ES TB Tryz.func113 rfl _ Tryz.ntmps113 rfl (Sat.start w) ?_
  refine .go ?_; repeat constructor
  refine EL.assign rfl rfl rfl ?_
  refine .go ?_; repeat constructor
  refine EL.move rfl rfl rfl ?_
  refine EL.ofRV (RV.notW rfl rfl) rfl rfl rfl (by intro c h; cases h) ?_
  refine EL.assign rfl rfl rfl ?_
  refine .go ?_; repeat constructor
  exact PX.ret rfl Tryz.results113 (.cons (.tmp rfl) .nil) (fun w hs => ⟨(), rfl, hs.ent (.nil _)⟩)
theorem or1_c (x y : UInt64) (w : World) : Pure Tryz.prog 145 #[Wv x, Wv y] (fun _ : Unit => Wv (x ||| y)) (fun _ => []) w := by
  refine calls_of_ES TB Tryz.func145 rfl _ Tryz.ntmps145 rfl (Sat.start w) ?_
  refine .go ?_; repeat constructor
  refine EL.assign rfl rfl rfl ?_
  refine .go ?_; repeat constructor
  refine EL.move rfl rfl rfl ?_
  refine EL.move rfl rfl rfl ?_
  refine EL.ofRV (RV.orW rfl rfl rfl rfl) rfl rfl rfl (by intro c h; cases h) ?_
  refine EL.assign rfl rfl rfl ?_
  refine .go ?_; repeat constructor
  exact PX.ret rfl Tryz.results145 (.cons (.tmp rfl) .nil) (fun w hs => ⟨(), rfl, hs.ent (.nil _)⟩)
theorem not_c (s : BS) (w : World) : Pure Tryz.prog 87 #[Bs s] (fun _ : Unit => Bs (notS s)) (fun _ => []) w := by
  refine calls_of_ES TB Tryz.func87 rfl _ Tryz.ntmps87 rfl (Sat.start w) ?_
  refine .go ?_; repeat constructor
  (refine EL.box rfl rfl rfl ?_; intro g1)
  (refine EL.alloc rfl rfl rfl ?_; intro g2)
  refine .go ?_; repeat constructor
  (apply EL.loadAggB; exact rfl; exact rfl; exact rfl; exact rfl; exact rfl; (case hm => repeat constructor); exact rfl)
  (apply EL.loadAggB; exact rfl; exact rfl; exact rfl; exact rfl; exact rfl; (case hm => repeat constructor); exact rfl)
  refine EL.callP rfl rfl rfl ent112 rfl (join_c 113 (fun x _ => ~~~x) ent113 not1_c s s) ?_
  (apply EL.storeAll; exact rfl; exact rfl; exact rfl; exact rfl; exact rfl; (case p => repeat constructor); exact rfl; (case h1 => exact (by first | rfl | exact all1 rfl | (intro u hu; simp only [List.mem_cons, List.not_mem_nil, or_false] at hu; rcases hu with rfl | rfl | rfl | rfl <;> rfl) | (intro u hu; simp at hu; rcases hu with rfl | rfl | rfl | rfl <;> rfl) | (intro u hu; simp at hu; rcases hu with rfl | rfl | rfl <;> rfl) | (intro u hu; simp at hu; rcases hu with rfl | rfl <;> rfl) | (intro u hu; simp at hu; obtain ⟨_, _, rfl⟩ := hu; rfl))))
  refine .go ?_; repeat constructor
  exact PX.ret rfl Tryz.results87 (.cons (.blkA rfl rfl rfl (by repeat constructor) rfl) .nil) (fun w hs => ⟨(), rfl, hs.ent (.nil _)⟩)
theorem or_c (s t : BS) (w : World) : Pure Tryz.prog 130 #[Bs s, Bs t] (fun _ : Unit => Bs (orS s t)) (fun _ => []) w := by
  refine calls_of_ES TB Tryz.func130 rfl _ Tryz.ntmps130 rfl (Sat.start w) ?_
  refine .go ?_; repeat constructor
  (refine EL.box rfl rfl rfl ?_; intro g2)
  (refine EL.box rfl rfl rfl ?_; intro g3)
  (refine EL.alloc rfl rfl rfl ?_; intro g4)
  refine .go ?_; repeat constructor
  (apply EL.loadAggB; exact rfl; exact rfl; exact rfl; exact rfl; exact rfl; (case hm => repeat constructor); exact rfl)
  (apply EL.loadAggB; exact rfl; exact rfl; exact rfl; exact rfl; exact rfl; (case hm => repeat constructor); exact rfl)
  refine EL.callP rfl rfl rfl ent112 rfl (join_c 145 (fun x y => x ||| y) ent145 or1_c s t) ?_
  (apply EL.storeAll; exact rfl; exact rfl; exact rfl; exact rfl; exact rfl; (case p => repeat constructor); exact rfl; (case h1 => exact (by first | rfl | exact all1 rfl | (intro u hu; simp only [List.mem_cons, List.not_mem_nil, or_false] at hu; rcases hu with rfl | rfl | rfl | rfl <;> rfl) | (intro u hu; simp at hu; rcases hu with rfl | rfl | rfl | rfl <;> rfl) | (intro u hu; simp at hu; rcases hu with rfl | rfl | rfl <;> rfl) | (intro u hu; simp at hu; rcases hu with rfl | rfl <;> rfl) | (intro u hu; simp at hu; obtain ⟨_, _, rfl⟩ := hu; rfl))))
  refine .go ?_; repeat constructor
  exact PX.ret rfl Tryz.results130 (.cons (.blkA rfl rfl rfl (by repeat constructor) rfl) .nil) (fun w hs => ⟨(), rfl, hs.ent (.nil _)⟩)
end Go.Proofs.YtblpgpgbnlhjlaaGreat
namespace Go.Proofs.YtblpgpgbnlhjlaaGreat
open Go Go.RowKit Sl
set_option maxRecDepth 100000
set_option maxHeartbeats 8000000
set_option linter.unusedVariables false
set_option linter.unusedSimpArgs false
attribute [local irreducible] ES EL PX wps
attribute [local irreducible] fillS
theorem is_c (l : List UInt8) (b : UInt8) (w : World) : Pure Tryz.prog 160 #[Sv l, Uv b] (fun _ : Unit => .tuple #[.bool (isB l b.toNat), .bool (okM l)]) (fun _ => []) w := by
  have hb := b.toNat_lt
  refine calls_of_ES TB Tryz.func160 rfl _ Tryz.ntmps160 rfl (Sat.start w) ?_
  refine .go ?_; repeat constructor
  refine EL.assign rfl rfl rfl ?_
  refine EL.assign rfl rfl rfl ?_
  refine .go ?_; repeat constructor
  refine EL.cut [(0, Sv l), (1, Uv b), (6, .bool (bUp b.toNat)), (7, .bool (bLo b.toNat)), (8, .bool (bDi b.toNat))] [] ?_ ?_
  · refine .go ?_; repeat constructor
    refine EL.move rfl rfl rfl ?_
    refine EL.geq rfl rfl rfl rfl ?_
    refine EL.move rfl rfl rfl ?_
    first | refine EL.splitD (d := 12) rfl (fun hp12 => ?_) (fun hp12 => ?_) | refine EL.splitN (d := 12) rfl (fun hp12 => ?_) (fun hp12 => ?_) | refine EL.splitB (d := 12) rfl (fun hp12 => ?_) (fun hp12 => ?_)
    · refine EL.move rfl rfl rfl ?_
      refine EL.leq rfl rfl rfl rfl ?_
      refine EL.pickT rfl rfl rfl rfl ?_
      refine EL.move rfl rfl rfl ?_
      refine EL.geq rfl rfl rfl rfl ?_
      refine EL.move rfl rfl rfl ?_
      first | refine EL.splitD (d := 18) rfl (fun hp18 => ?_) (fun hp18 => ?_) | refine EL.splitN (d := 18) rfl (fun hp18 => ?_) (fun hp18 => ?_) | refine EL.splitB (d := 18) rfl (fun hp18 => ?_) (fun hp18 => ?_)
      · refine EL.move rfl rfl rfl ?_
        refine EL.leq rfl rfl rfl rfl ?_
        refine EL.pickT rfl rfl rfl rfl ?_
        refine EL.move rfl rfl rfl ?_
        refine EL.geq rfl rfl rfl rfl ?_
        refine EL.move rfl rfl rfl ?_
        first | refine EL.splitD (d := 24) rfl (fun hp24 => ?_) (fun hp24 => ?_) | refine EL.splitN (d := 24) rfl (fun hp24 => ?_) (fun hp24 => ?_) | refine EL.splitB (d := 24) rfl (fun hp24 => ?_) (fun hp24 => ?_)
        · refine EL.move rfl rfl rfl ?_
          refine EL.leq rfl rfl rfl rfl ?_
          refine EL.pickT rfl rfl rfl rfl ?_
          refine EL.assign rfl rfl rfl ?_
          refine EL.assign rfl rfl rfl ?_
          refine EL.assign rfl rfl rfl ?_
          exact EL.endK ⟨rfl, rfl, getB rfl (by first | exact decide_eq_decide.2 (by omega) | exact Eq.trans decide_not.symm (decide_eq_decide.2 (by omega)) | exact (decide_eq_false (by omega)).symm | exact (decide_eq_true (by omega)).symm), getB rfl (by first | exact decide_eq_decide.2 (by omega) | exact Eq.trans decide_not.symm (decide_eq_decide.2 (by omega)) | exact (decide_eq_false (by omega)).symm | exact (decide_eq_true (by omega)).symm), getB rfl (by first | exact decide_eq_decide.2 (by omega) | exact Eq.trans decide_not.symm (decide_eq_decide.2 (by omega)) | exact (decide_eq_false (by omega)).symm | exact (decide_eq_true (by omega)).symm), trivial⟩ (.i (by repeat constructor))
        · refine EL.pass rfl rfl rfl ?_
          refine EL.pass rfl rfl rfl ?_
          refine EL.pickF rfl rfl rfl rfl ?_
          refine EL.assign rfl rfl rfl ?_
          refine EL.assign rfl rfl rfl ?_
          refine EL.assign rfl rfl rfl ?_
          exact EL.endK ⟨rfl, rfl, getB rfl (by first | exact decide_eq_decide.2 (by omega) | exact Eq.trans decide_not.symm (decide_eq_decide.2 (by omega)) | exact (decide_eq_false (by omega)).symm | exact (decide_eq_true (by omega)).symm), getB rfl (by first | exact decide_eq_decide.2 (by omega) | exact Eq.trans decide_not.symm (decide_eq_decide.2 (by omega)) | exact (decide_eq_false (by omega)).symm | exact (decide_eq_true (by omega)).symm), getB rfl (by first | exact decide_eq_decide.2 (by omega) | exact Eq.trans decide_not.symm (decide_eq_decide.2 (by omega)) | exact (decide_eq_false (by omega)).symm | exact (decide_eq_true (by omega)).symm), trivial⟩ (.i (by repeat constructor))
      · refine EL.pass rfl rfl rfl ?_
        refine EL.pass rfl rfl rfl ?_
        refine EL.pickF rfl rfl rfl rfl ?_
        refine EL.move rfl rfl rfl ?_
        refine EL.geq rfl rfl rfl rfl ?_
        refine EL.move rfl rfl rfl ?_
        first | refine EL.splitD (d := 24) rfl (fun hp24 => ?_) (fun hp24 => ?_) | refine EL.splitN (d := 24) rfl (fun hp24 => ?_) (fun hp24 => ?_) | refine EL.splitB (d := 24) rfl (fun hp24 => ?_) (fun hp24 => ?_)
        · refine EL.move rfl rfl rfl ?_
          refine EL.leq rfl rfl rfl rfl ?_
          refine EL.pickT rfl rfl rfl rfl ?_
          refine EL.assign rfl rfl rfl ?_
          refine EL.assign rfl rfl rfl ?_
          refine EL.assign rfl rfl rfl ?_
          exact EL.endK ⟨rfl, rfl, getB rfl (by first | exact decide_eq_decide.2 (by omega) | exact Eq.trans decide_not.symm (decide_eq_decide.2 (by omega)) | exact (decide_eq_false (by omega)).symm | exact (decide_eq_true (by omega)).symm), getB rfl (by first | exact decide_eq_decide.2 (by omega) | exact Eq.trans decide_not.symm (decide_eq_decide.2 (by omega)) | exact (decide_eq_false (by omega)).symm | exact (decide_eq_true (by omega)).symm), getB rfl (by first | exact decide_eq_decide.2 (by omega) | exact Eq.trans decide_not.symm (decide_eq_decide.2 (by omega)) | exact (decide_eq_false (by omega)).symm | exact (decide_eq_true (by omega)).symm), trivial⟩ (.i (by repeat constructor))
        · refine EL.pass rfl rfl rfl ?_
          refine EL.pass rfl rfl rfl ?_
          refine EL.pickF rfl rfl rfl rfl ?_
          refine EL.assign rfl rfl rfl ?_
          refine EL.assign rfl rfl rfl ?_
          refine EL.assign rfl rfl rfl ?_
          exact EL.endK ⟨rfl, rfl, getB rfl (by first | exact decide_eq_decide.2 (by omega) | exact Eq.trans decide_not.symm (decide_eq_decide.2 (by omega)) | exact (decide_eq_false (by omega)).symm | exact (decide_eq_true (by omega)).symm), getB rfl (by first | exact decide_eq_decide.2 (by omega) | exact Eq.trans decide_not.symm (decide_eq_decide.2 (by omega)) | exact (decide_eq_false (by omega)).symm | exact (decide_eq_true (by omega)).symm), getB rfl (by first | exact decide_eq_decide.2 (by omega) | exact Eq.trans decide_not.symm (decide_eq_decide.2 (by omega)) | exact (decide_eq_false (by omega)).symm | exact (decide_eq_true (by omega)).symm), trivial⟩ (.i (by repeat constructor))
    · refine EL.pass rfl rfl rfl ?_
      refine EL.pass rfl rfl rfl ?_
      refine EL.pickF rfl rfl rfl rfl ?_
      refine EL.move rfl rfl rfl ?_
      refine EL.geq rfl rfl rfl rfl ?_
      refine EL.move rfl rfl rfl ?_
      first | refine EL.splitD (d := 18) rfl (fun hp18 => ?_) (fun hp18 => ?_) | refine EL.splitN (d := 18) rfl (fun hp18 => ?_) (fun hp18 => ?_) | refine EL.splitB (d := 18) rfl (fun hp18 => ?_) (fun hp18 => ?_)
      · refine EL.move rfl rfl rfl ?_
        refine EL.leq rfl rfl rfl rfl ?_
        refine EL.pickT rfl rfl rfl rfl ?_
        refine EL.move rfl rfl rfl ?_
        refine EL.geq rfl rfl rfl rfl ?_
        refine EL.move rfl rfl rfl ?_
        first | refine EL.splitD (d := 24) rfl (fun hp24 => ?_) (fun hp24 => ?_) | refine EL.splitN (d := 24) rfl (fun hp24 => ?_) (fun hp24 => ?_) | refine EL.splitB (d := 24) rfl (fun hp24 => ?_) (fun hp24 => ?_)
        · refine EL.move rfl rfl rfl ?_
          refine EL.leq rfl rfl rfl rfl ?_
          refine EL.pickT rfl rfl rfl rfl ?_
          refine EL.assign rfl rfl rfl ?_
          refine EL.assign rfl rfl rfl ?_
          refine EL.assign rfl rfl rfl ?_
          exact EL.endK ⟨rfl, rfl, getB rfl (by first | exact decide_eq_decide.2 (by omega) | exact Eq.trans decide_not.symm (decide_eq_decide.2 (by omega)) | exact (decide_eq_false (by omega)).symm | exact (decide_eq_true (by omega)).symm), getB rfl (by first | exact decide_eq_decide.2 (by omega) | exact Eq.trans decide_not.symm (decide_eq_decide.2 (by omega)) | exact (decide_eq_false (by omega)).symm | exact (decide_eq_true (by omega)).symm), getB rfl (by first | exact decide_eq_decide.2 (by omega) | exact Eq.trans decide_not.symm (decide_eq_decide.2 (by omega)) | exact (decide_eq_false (by omega)).symm | exact (decide_eq_true (by omega)).symm), trivial⟩ (.i (by repeat constructor))
        · refine EL.pass rfl rfl rfl ?_
          refine EL.pass rfl rfl rfl ?_
          refine EL.pickF rfl rfl rfl rfl ?_
          refine EL.assign rfl rfl rfl ?_
          refine EL.assign rfl rfl rfl ?_
          refine EL.assign rfl rfl rfl ?_
          exact EL.endK ⟨rfl, rfl, getB rfl (by first | exact decide_eq_decide.2 (by omega) | exact Eq.trans decide_not.symm (decide_eq_decide.2 (by omega)) | exact (decide_eq_false (by omega)).symm | exact (decide_eq_true (by omega)).symm), getB rfl (by first | exact decide_eq_decide.2 (by omega) | exact Eq.trans decide_not.symm (decide_eq_decide.2 (by omega)) | exact (decide_eq_false (by omega)).symm | exact (decide_eq_true (by omega)).symm), getB rfl (by first | exact decide_eq_decide.2 (by omega) | exact Eq.trans decide_not.symm (decide_eq_decide.2 (by omega)) | exact (decide_eq_false (by omega)).symm | exact (decide_eq_true (by omega)).symm), trivial⟩ (.i (by repeat constructor))
      · refine EL.pass rfl rfl rfl ?_
        refine EL.pass rfl rfl rfl ?_
        refine EL.pickF rfl rfl rfl rfl ?_
        refine EL.move rfl rfl rfl ?_
        refine EL.geq rfl rfl rfl rfl ?_
        refine EL.move rfl rfl rfl ?_
        first | refine EL.splitD (d := 24) rfl (fun hp24 => ?_) (fun hp24 => ?_) | refine EL.splitN (d := 24) rfl (fun hp24 => ?_) (fun hp24 => ?_) | refine EL.splitB (d := 24) rfl (fun hp24 => ?_) (fun hp24 => ?_)
        · refine EL.move rfl rfl rfl ?_
          refine EL.leq rfl rfl rfl rfl ?_
          refine EL.pickT rfl rfl rfl rfl ?_
          refine EL.assign rfl rfl rfl ?_
          refine EL.assign rfl rfl rfl ?_
          refine EL.assign rfl rfl rfl ?_
          exact EL.endK ⟨rfl, rfl, getB rfl (by first | exact decide_eq_decide.2 (by omega) | exact Eq.trans decide_not.symm (decide_eq_decide.2 (by omega)) | exact (decide_eq_false (by omega)).symm | exact (decide_eq_true (by omega)).symm), getB rfl (by first | exact decide_eq_decide.2 (by omega) | exact Eq.trans decide_not.symm (decide_eq_decide.2 (by omega)) | exact (decide_eq_false (by omega)).symm | exact (decide_eq_true (by omega)).symm), getB rfl (by first | exact decide_eq_decide.2 (by omega) | exact Eq.trans decide_not.symm (decide_eq_decide.2 (by omega)) | exact (decide_eq_false (by omega)).symm | exact (decide_eq_true (by omega)).symm), trivial⟩ (.i (by repeat constructor))
        · refine EL.pass rfl rfl rfl ?_
          refine EL.pass rfl rfl rfl ?_
          refine EL.pickF rfl rfl rfl rfl ?_
          refine EL.assign rfl rfl rfl ?_
          refine EL.assign rfl rfl rfl ?_
          refine EL.assign rfl rfl rfl ?_
          exact EL.endK ⟨rfl, rfl, getB rfl (by first | exact decide_eq_decide.2 (by omega) | exact Eq.trans decide_not.symm (decide_eq_decide.2 (by omega)) | exact (decide_eq_false (by omega)).symm | exact (decide_eq_true (by omega)).symm), getB rfl (by first | exact decide_eq_decide.2 (by omega) | exact Eq.trans decide_not.symm (decide_eq_decide.2 (by omega)) | exact (decide_eq_false (by omega)).symm | exact (decide_eq_true (by omega)).symm), getB rfl (by first | exact decide_eq_decide.2 (by omega) | exact Eq.trans decide_not.symm (decide_eq_decide.2 (by omega)) | exact (decide_eq_false (by omega)).symm | exact (decide_eq_true (by omega)).symm), trivial⟩ (.i (by repeat constructor))
  refine .go ?_; repeat constructor
  refine EL.cut [(0, Sv l), (1, Uv b), (6, .bool (bUp b.toNat)), (7, .bool (bLo b.toNat)), (8, .bool (bDi b.toNat)), (9, .bool (bGr b.toNat))] [] ?_ ?_
  · refine .go ?_; repeat constructor
    refine EL.move rfl rfl rfl ?_
    refine EL.gtr rfl rfl rfl rfl ?_
    refine EL.move rfl rfl rfl ?_
    first | refine EL.splitD (d := 30) rfl (fun hp30 => ?_) (fun hp30 => ?_) | refine EL.splitN (d := 30) rfl (fun hp30 => ?_) (fun hp30 => ?_) | refine EL.splitB (d := 30) rfl (fun hp30 => ?_) (fun hp30 => ?_)
    · refine EL.move rfl rfl rfl ?_
      refine EL.lss rfl rfl rfl rfl ?_
      refine EL.pickT rfl rfl rfl rfl ?_
      refine EL.assign rfl rfl rfl ?_
      exact EL.endK ⟨rfl, rfl, rfl, rfl, rfl, getB rfl (by first | exact decide_eq_decide.2 (by omega) | exact Eq.trans decide_not.symm (decide_eq_decide.2 (by omega)) | exact (decide_eq_false (by omega)).symm | exact (decide_eq_true (by omega)).symm), trivial⟩ (.i (by repeat constructor))
    · refine EL.pass rfl rfl rfl ?_
      refine EL.pass rfl rfl rfl ?_
      refine EL.pickF rfl rfl rfl rfl ?_
      refine EL.assign rfl rfl rfl ?_
      exact EL.endK ⟨rfl, rfl, rfl, rfl, rfl, getB rfl (by first | exact decide_eq_decide.2 (by omega) | exact Eq.trans decide_not.symm (decide_eq_decide.2 (by omega)) | exact (decide_eq_false (by omega)).symm | exact (decide_eq_true (by omega)).symm), trivial⟩ (.i (by repeat constructor))
  refine .go ?_; repeat constructor
  refine EL.move rfl rfl rfl ?_
  refine .go ?_; repeat constructor
  refine EL.eqlS rfl rfl rfl rfl ?_
  refine EL.assign rfl rfl rfl ?_
  refine .go ?_; repeat constructor
  refine ES.condD rfl (fun he0 => ?_) (fun hn0 => ?_)
  · subst he0
    refine .go ?_; repeat constructor
    refine EL.move rfl rfl rfl ?_
    refine EL.move rfl rfl rfl ?_
    first | refine EL.splitD (d := 38) rfl (fun hp38 => ?_) (fun hp38 => ?_) | refine EL.splitN (d := 38) rfl (fun hp38 => ?_) (fun hp38 => ?_) | refine EL.splitB (d := 38) rfl (fun hp38 => ?_) (fun hp38 => ?_)
    · refine EL.pass rfl rfl rfl ?_
      refine EL.pickT rfl rfl rfl rfl ?_
      refine EL.assign rfl rfl rfl ?_
      refine EL.assign rfl rfl rfl ?_
      focus ((refine .go ?_; repeat constructor); exact PX.ret rfl Tryz.results160 (.cons (.tmp rfl) (.cons (.tmp rfl) .nil)) (fun w hs => ⟨(), congrArg (fun x => Ending.returned (.tuple #[.bool x, .bool true])) (by first | exact decide_eq_decide.2 (by omega) | exact Eq.trans decide_not.symm (decide_eq_decide.2 (by omega)) | exact (decide_eq_false (by omega)).symm | exact (decide_eq_true (by omega)).symm), hs.ent (.nil _)⟩))
    · refine EL.move rfl rfl rfl ?_
      refine EL.pickF rfl rfl rfl rfl ?_
      refine EL.assign rfl rfl rfl ?_
      refine EL.assign rfl rfl rfl ?_
      focus ((refine .go ?_; repeat constructor); exact PX.ret rfl Tryz.results160 (.cons (.tmp rfl) (.cons (.tmp rfl) .nil)) (fun w hs => ⟨(), congrArg (fun x => Ending.returned (.tuple #[.bool x, .bool true])) (by first | exact decide_eq_decide.2 (by omega) | exact Eq.trans decide_not.symm (decide_eq_decide.2 (by omega)) | exact (decide_eq_false (by omega)).symm | exact (decide_eq_true (by omega)).symm), hs.ent (.nil _)⟩))
  refine .go ?_; repeat constructor
  refine EL.eqlS rfl rfl rfl rfl ?_
  refine EL.assign rfl rfl rfl ?_
  refine .go ?_; repeat constructor
  refine ES.condD rfl (fun he1 => ?_) (fun hn1 => ?_)
  · subst he1
    refine .go ?_; repeat constructor
    refine EL.move rfl rfl rfl ?_
    refine EL.assign rfl rfl rfl ?_
    refine EL.assign rfl rfl rfl ?_
    focus ((refine .go ?_; repeat constructor); exact PX.ret rfl Tryz.results160 (.cons (.tmp rfl) (.cons (.tmp rfl) .nil)) (fun w hs => ⟨(), congrArg (fun x => Ending.returned (.tuple #[.bool x, .bool true])) (by first | exact decide_eq_decide.2 (by omega) | exact Eq.trans decide_not.symm (decide_eq_decide.2 (by omega)) | exact (decide_eq_false (by omega)).symm | exact (decide_eq_true (by omega)).symm), hs.ent (.nil _)⟩))
  refine .go ?_; repeat constructor
  refine EL.eqlS rfl rfl rfl rfl ?_
  refine EL.assign rfl rfl rfl ?_
  refine .go ?_; repeat constructor
  refine ES.condD rfl (fun he2 => ?_) (fun hn2 => ?_)
  · subst he2
    refine .go ?_; repeat constructor
    refine EL.move rfl rfl rfl ?_
    refine EL.move rfl rfl rfl ?_
    first | refine EL.splitD (d := 47) rfl (fun hp47 => ?_) (fun hp47 => ?_) | refine EL.splitN (d := 47) rfl (fun hp47 => ?_) (fun hp47 => ?_) | refine EL.splitB (d := 47) rfl (fun hp47 => ?_) (fun hp47 => ?_)
    · refine EL.pass rfl rfl rfl ?_
      refine EL.pickT rfl rfl rfl rfl ?_
      refine EL.move rfl rfl rfl ?_
      refine EL.pass rfl rfl rfl ?_
      refine EL.pickT rfl rfl rfl rfl ?_
      refine EL.assign rfl rfl rfl ?_
      refine EL.assign rfl rfl rfl ?_
      focus ((refine .go ?_; repeat constructor); exact PX.ret rfl Tryz.results160 (.cons (.tmp rfl) (.cons (.tmp rfl) .nil)) (fun w hs => ⟨(), congrArg (fun x => Ending.returned (.tuple #[.bool x, .bool true])) (by first | exact decide_eq_decide.2 (by omega) | exact Eq.trans decide_not.symm (decide_eq_decide.2 (by omega)) | exact (decide_eq_false (by omega)).symm | exact (decide_eq_true (by omega)).symm), hs.ent (.nil _)⟩))
    · refine EL.move rfl rfl rfl ?_
      refine EL.pickF rfl rfl rfl rfl ?_
      refine EL.move rfl rfl rfl ?_
      first | refine EL.splitD (d := 50) rfl (fun hp50 => ?_) (fun hp50 => ?_) | refine EL.splitN (d := 50) rfl (fun hp50 => ?_) (fun hp50 => ?_) | refine EL.splitB (d := 50) rfl (fun hp50 => ?_) (fun hp50 => ?_)
      · refine EL.pass rfl rfl rfl ?_
        refine EL.pickT rfl rfl rfl rfl ?_
        refine EL.assign rfl rfl rfl ?_
        refine EL.assign rfl rfl rfl ?_
        focus ((refine .go ?_; repeat constructor); exact PX.ret rfl Tryz.results160 (.cons (.tmp rfl) (.cons (.tmp rfl) .nil)) (fun w hs => ⟨(), congrArg (fun x => Ending.returned (.tuple #[.bool x, .bool true])) (by first | exact decide_eq_decide.2 (by omega) | exact Eq.trans decide_not.symm (decide_eq_decide.2 (by omega)) | exact (decide_eq_false (by omega)).symm | exact (decide_eq_true (by omega)).symm), hs.ent (.nil _)⟩))
      · refine EL.move rfl rfl rfl ?_
        refine EL.pickF rfl rfl rfl rfl ?_
        refine EL.assign rfl rfl rfl ?_
        refine EL.assign rfl rfl rfl ?_
        focus ((refine .go ?_; repeat constructor); exact PX.ret rfl Tryz.results160 (.cons (.tmp rfl) (.cons (.tmp rfl) .nil)) (fun w hs => ⟨(), congrArg (fun x => Ending.returned (.tuple #[.bool x, .bool true])) (by first | exact decide_eq_decide.2 (by omega) | exact Eq.trans decide_not.symm (decide_eq_decide.2 (by omega)) | exact (decide_eq_false (by omega)).symm | exact (decide_eq_true (by omega)).symm), hs.ent (.nil _)⟩))
  refine .go ?_; repeat constructor
  refine EL.eqlS rfl rfl rfl rfl ?_
  refine EL.assign rfl rfl rfl ?_
  refine .go ?_; repeat constructor
  refine ES.condD rfl (fun he3 => ?_) (fun hn3 => ?_)
  · subst he3
    refine .go ?_; repeat constructor
    refine EL.move rfl rfl rfl ?_
    refine EL.assign rfl rfl rfl ?_
    refine EL.assign rfl rfl rfl ?_
    focus ((refine .go ?_; repeat constructor); exact PX.ret rfl Tryz.results160 (.cons (.tmp rfl) (.cons (.tmp rfl) .nil)) (fun w hs => ⟨(), congrArg (fun x => Ending.returned (.tuple #[.bool x, .bool true])) (by first | exact decide_eq_decide.2 (by omega) | exact Eq.trans decide_not.symm (decide_eq_decide.2 (by omega)) | exact (decide_eq_false (by omega)).symm | exact (decide_eq_true (by omega)).symm), hs.ent (.nil _)⟩))
  refine .go ?_; repeat constructor
  refine EL.eqlS rfl rfl rfl rfl ?_
  refine EL.assign rfl rfl rfl ?_
  refine .go ?_; repeat constructor
  refine ES.condD rfl (fun he4 => ?_) (fun hn4 => ?_)
  · subst he4
    refine .go ?_; repeat constructor
    refine EL.move rfl rfl rfl ?_
    refine EL.assign rfl rfl rfl ?_
    refine EL.assign rfl rfl rfl ?_
    focus ((refine .go ?_; repeat constructor); exact PX.ret rfl Tryz.results160 (.cons (.tmp rfl) (.cons (.tmp rfl) .nil)) (fun w hs => ⟨(), congrArg (fun x => Ending.returned (.tuple #[.bool x, .bool true])) (by first | exact decide_eq_decide.2 (by omega) | exact Eq.trans decide_not.symm (decide_eq_decide.2 (by omega)) | exact (decide_eq_false (by omega)).symm | exact (decide_eq_true (by omega)).symm), hs.ent (.nil _)⟩))
  refine .go ?_; repeat constructor
  refine EL.eqlS rfl rfl rfl rfl ?_
  refine EL.assign rfl rfl rfl ?_
  refine .go ?_; repeat constructor
  refine ES.condD rfl (fun he5 => ?_) (fun hn5 => ?_)
  · subst he5
    refine .go ?_; repeat constructor
    refine EL.move rfl rfl rfl ?_
    refine EL.eqlI rfl rfl rfl rfl ?_
    refine EL.move rfl rfl rfl ?_
    first | refine EL.splitD (d := 63) rfl (fun hp63 => ?_) (fun hp63 => ?_) | refine EL.splitN (d := 63) rfl (fun hp63 => ?_) (fun hp63 => ?_) | refine EL.splitB (d := 63) rfl (fun hp63 => ?_) (fun hp63 => ?_)
    · refine EL.pass rfl rfl rfl ?_
      refine EL.pass rfl rfl rfl ?_
      refine EL.pass rfl rfl rfl ?_
      refine EL.pass rfl rfl rfl ?_
      refine EL.pass rfl rfl rfl ?_
      refine EL.pass rfl rfl rfl ?_
      refine EL.pickT rfl rfl rfl rfl ?_
      refine EL.assign rfl rfl rfl ?_
      refine EL.assign rfl rfl rfl ?_
      focus ((refine .go ?_; repeat constructor); exact PX.ret rfl Tryz.results160 (.cons (.tmp rfl) (.cons (.tmp rfl) .nil)) (fun w hs => ⟨(), congrArg (fun x => Ending.returned (.tuple #[.bool x, .bool true])) (by first | exact decide_eq_decide.2 (by omega) | exact Eq.trans decide_not.symm (decide_eq_decide.2 (by omega)) | exact (decide_eq_false (by omega)).symm | exact (decide_eq_true (by omega)).symm), hs.ent (.nil _)⟩))
    · refine EL.move rfl rfl rfl ?_
      refine EL.geq rfl rfl rfl rfl ?_
      refine EL.move rfl rfl rfl ?_
      first | refine EL.splitD (d := 66) rfl (fun hp66 => ?_) (fun hp66 => ?_) | refine EL.splitN (d := 66) rfl (fun hp66 => ?_) (fun hp66 => ?_) | refine EL.splitB (d := 66) rfl (fun hp66 => ?_) (fun hp66 => ?_)
      · refine EL.move rfl rfl rfl ?_
        refine EL.leq rfl rfl rfl rfl ?_
        refine EL.pickT rfl rfl rfl rfl ?_
        refine EL.pickF rfl rfl rfl rfl ?_
        refine EL.assign rfl rfl rfl ?_
        refine EL.assign rfl rfl rfl ?_
        focus ((refine .go ?_; repeat constructor); exact PX.ret rfl Tryz.results160 (.cons (.tmp rfl) (.cons (.tmp rfl) .nil)) (fun w hs => ⟨(), congrArg (fun x => Ending.returned (.tuple #[.bool x, .bool true])) (by first | exact decide_eq_decide.2 (by omega) | exact Eq.trans decide_not.symm (decide_eq_decide.2 (by omega)) | exact (decide_eq_false (by omega)).symm | exact (decide_eq_true (by omega)).symm), hs.ent (.nil _)⟩))
      · refine EL.pass rfl rfl rfl ?_
        refine EL.pass rfl rfl rfl ?_
        refine EL.pickF rfl rfl rfl rfl ?_
        refine EL.pickF rfl rfl rfl rfl ?_
        refine EL.assign rfl rfl rfl ?_
        refine EL.assign rfl rfl rfl ?_
        focus ((refine .go ?_; repeat constructor); exact PX.ret rfl Tryz.results160 (.cons (.tmp rfl) (.cons (.tmp rfl) .nil)) (fun w hs => ⟨(), congrArg (fun x => Ending.returned (.tuple #[.bool x, .bool true])) (by first | exact decide_eq_decide.2 (by omega) | exact Eq.trans decide_not.symm (decide_eq_decide.2 (by omega)) | exact (decide_eq_false (by omega)).symm | exact (decide_eq_true (by omega)).symm), hs.ent (.nil _)⟩))
  refine .go ?_; repeat constructor
  refine EL.eqlS rfl rfl rfl rfl ?_
  refine EL.assign rfl rfl rfl ?_
  refine .go ?_; repeat constructor
  refine ES.condD rfl (fun he6 => ?_) (fun hn6 => ?_)
  · subst he6
    refine .go ?_; repeat constructor
    refine EL.move rfl rfl rfl ?_
    refine EL.eqlI rfl rfl rfl rfl ?_
    refine EL.move rfl rfl rfl ?_
    first | refine EL.splitD (d := 75) rfl (fun hp75 => ?_) (fun hp75 => ?_) | refine EL.splitN (d := 75) rfl (fun hp75 => ?_) (fun hp75 => ?_) | refine EL.splitB (d := 75) rfl (fun hp75 => ?_) (fun hp75 => ?_)
    · refine EL.pass rfl rfl rfl ?_
      refine EL.pass rfl rfl rfl ?_
      refine EL.pickT rfl rfl rfl rfl ?_
      refine EL.assign rfl rfl rfl ?_
      refine EL.assign rfl rfl rfl ?_
      focus ((refine .go ?_; repeat constructor); exact PX.ret rfl Tryz.results160 (.cons (.tmp rfl) (.cons (.tmp rfl) .nil)) (fun w hs => ⟨(), congrArg (fun x => Ending.returned (.tuple #[.bool x, .bool true])) (by first | exact decide_eq_decide.2 (by omega) | exact Eq.trans decide_not.symm (decide_eq_decide.2 (by omega)) | exact (decide_eq_false (by omega)).symm | exact (decide_eq_true (by omega)).symm), hs.ent (.nil _)⟩))
    · refine EL.move rfl rfl rfl ?_
      refine EL.eqlI rfl rfl rfl rfl ?_
      refine EL.pickF rfl rfl rfl rfl ?_
      refine EL.assign rfl rfl rfl ?_
      refine EL.assign rfl rfl rfl ?_
      focus ((refine .go ?_; repeat constructor); exact PX.ret rfl Tryz.results160 (.cons (.tmp rfl) (.cons (.tmp rfl) .nil)) (fun w hs => ⟨(), congrArg (fun x => Ending.returned (.tuple #[.bool x, .bool true])) (by first | exact decide_eq_decide.2 (by omega) | exact Eq.trans decide_not.symm (decide_eq_decide.2 (by omega)) | exact (decide_eq_false (by omega)).symm | exact (decide_eq_true (by omega)).symm), hs.ent (.nil _)⟩))
  refine .go ?_; repeat constructor
  refine EL.eqlS rfl rfl rfl rfl ?_
  refine EL.assign rfl rfl rfl ?_
  refine .go ?_; repeat constructor
  refine ES.condD rfl (fun he7 => ?_) (fun hn7 => ?_)
  · subst he7
    refine .go ?_; repeat constructor
    refine EL.move rfl rfl rfl ?_
    refine EL.assign rfl rfl rfl ?_
    refine EL.assign rfl rfl rfl ?_
    focus ((refine .go ?_; repeat constructor); exact PX.ret rfl Tryz.results160 (.cons (.tmp rfl) (.cons (.tmp rfl) .nil)) (fun w hs => ⟨(), congrArg (fun x => Ending.returned (.tuple #[.bool x, .bool true])) (by first | exact decide_eq_decide.2 (by omega) | exact Eq.trans decide_not.symm (decide_eq_decide.2 (by omega)) | exact (decide_eq_false (by omega)).symm | exact (decide_eq_true (by omega)).symm), hs.ent (.nil _)⟩))
  refine .go ?_; repeat constructor
  refine EL.eqlS rfl rfl rfl rfl ?_
  refine EL.assign rfl rfl rfl ?_
  refine .go ?_; repeat constructor
  refine ES.condD rfl (fun he8 => ?_) (fun hn8 => ?_)
  · subst he8
    refine .go ?_; repeat constructor
    refine EL.move rfl rfl rfl ?_
    refine EL.move rfl rfl rfl ?_
    first | refine EL.splitD (d := 85) rfl (fun hp85 => ?_) (fun hp85 => ?_) | refine EL.splitN (d := 85) rfl (fun hp85 => ?_) (fun hp85 => ?_) | refine EL.splitB (d := 85) rfl (fun hp85 => ?_) (fun hp85 => ?_)
    · refine EL.pass rfl rfl rfl ?_
      refine EL.pass rfl rfl rfl ?_
      refine EL.pickT rfl rfl rfl rfl ?_
      refine EL.assign rfl rfl rfl ?_
      refine EL.assign rfl rfl rfl ?_
      focus ((refine .go ?_; repeat constructor); exact PX.ret rfl Tryz.results160 (.cons (.tmp rfl) (.cons (.tmp rfl) .nil)) (fun w hs => ⟨(), congrArg (fun x => Ending.returned (.tuple #[.bool x, .bool true])) (by first | exact decide_eq_decide.2 (by omega) | exact Eq.trans decide_not.symm (decide_eq_decide.2 (by omega)) | exact (decide_eq_false (by omega)).symm | exact (decide_eq_true (by omega)).symm), hs.ent (.nil _)⟩))
    · refine EL.move rfl rfl rfl ?_
      refine EL.eqlI rfl rfl rfl rfl ?_
      refine EL.pickF rfl rfl rfl rfl ?_
      refine EL.assign rfl rfl rfl ?_
      refine EL.assign rfl rfl rfl ?_
      focus ((refine .go ?_; repeat constructor); exact PX.ret rfl Tryz.results160 (.cons (.tmp rfl) (.cons (.tmp rfl) .nil)) (fun w hs => ⟨(), congrArg (fun x => Ending.returned (.tuple #[.bool x, .bool true])) (by first | exact decide_eq_decide.2 (by omega) | exact Eq.trans decide_not.symm (decide_eq_decide.2 (by omega)) | exact (decide_eq_false (by omega)).symm | exact (decide_eq_true (by omega)).symm), hs.ent (.nil _)⟩))
  refine .go ?_; repeat constructor
  refine EL.eqlS rfl rfl rfl rfl ?_
  refine EL.assign rfl rfl rfl ?_
  refine .go ?_; repeat constructor
  refine ES.condD rfl (fun he9 => ?_) (fun hn9 => ?_)
  · subst he9
    refine .go ?_; repeat constructor
    refine EL.move rfl rfl rfl ?_
    refine EL.move rfl rfl rfl ?_
    first | refine EL.splitD (d := 92) rfl (fun hp92 => ?_) (fun hp92 => ?_) | refine EL.splitN (d := 92) rfl (fun hp92 => ?_) (fun hp92 => ?_) | refine EL.splitB (d := 92) rfl (fun hp92 => ?_) (fun hp92 => ?_)
    · refine EL.move rfl rfl rfl ?_
      refine EL.not rfl rfl rfl ?_
      refine EL.pickT rfl rfl rfl rfl ?_
      refine EL.move rfl rfl rfl ?_
      first | refine EL.splitD (d := 96) rfl (fun hp96 => ?_) (fun hp96 => ?_) | refine EL.splitN (d := 96) rfl (fun hp96 => ?_) (fun hp96 => ?_) | refine EL.splitB (d := 96) rfl (fun hp96 => ?_) (fun hp96 => ?_)
      · refine EL.move rfl rfl rfl ?_
        refine EL.not rfl rfl rfl ?_
        refine EL.pickT rfl rfl rfl rfl ?_
        refine EL.move rfl rfl rfl ?_
        first | refine EL.splitD (d := 100) rfl (fun hp100 => ?_) (fun hp100 => ?_) | refine EL.splitN (d := 100) rfl (fun hp100 => ?_) (fun hp100 => ?_) | refine EL.splitB (d := 100) rfl (fun hp100 => ?_) (fun hp100 => ?_)
        · refine EL.move rfl rfl rfl ?_
          refine EL.not rfl rfl rfl ?_
          refine EL.pickT rfl rfl rfl rfl ?_
          refine EL.assign rfl rfl rfl ?_
          refine EL.assign rfl rfl rfl ?_
          focus ((refine .go ?_; repeat constructor); exact PX.ret rfl Tryz.results160 (.cons (.tmp rfl) (.cons (.tmp rfl) .nil)) (fun w hs => ⟨(), congrArg (fun x => Ending.returned (.tuple #[.bool x, .bool true])) (by first | exact decide_eq_decide.2 (by omega) | exact Eq.trans decide_not.symm (decide_eq_decide.2 (by omega)) | exact (decide_eq_false (by omega)).symm | exact (decide_eq_true (by omega)).symm), hs.ent (.nil _)⟩))
        · refine EL.pass rfl rfl rfl ?_
          refine EL.pass rfl rfl rfl ?_
          refine EL.pickF rfl rfl rfl rfl ?_
          refine EL.assign rfl rfl rfl ?_
          refine EL.assign rfl rfl rfl ?_
          focus ((refine .go ?_; repeat constructor); exact PX.ret rfl Tryz.results160 (.cons (.tmp rfl) (.cons (.tmp rfl) .nil)) (fun w hs => ⟨(), congrArg (fun x => Ending.returned (.tuple #[.bool x, .bool true])) (by first | exact decide_eq_decide.2 (by omega) | exact Eq.trans decide_not.symm (decide_eq_decide.2 (by omega)) | exact (decide_eq_false (by omega)).symm | exact (decide_eq_true (by omega)).symm), hs.ent (.nil _)⟩))
      · refine EL.pass rfl rfl rfl ?_
        refine EL.pass rfl rfl rfl ?_
        refine EL.pickF rfl rfl rfl rfl ?_
        refine EL.move rfl rfl rfl ?_
        refine EL.pass rfl rfl rfl ?_
        refine EL.pass rfl rfl rfl ?_
        refine EL.pickF rfl rfl rfl rfl ?_
        refine EL.assign rfl rfl rfl ?_
        refine EL.assign rfl rfl rfl ?_
        focus ((refine .go ?_; repeat constructor); exact PX.ret rfl Tryz.results160 (.cons (.tmp rfl) (.cons (.tmp rfl) .nil)) (fun w hs => ⟨(), congrArg (fun x => Ending.returned (.tuple #[.bool x, .bool true])) (by first | exact decide_eq_decide.2 (by omega) | exact Eq.trans decide_not.symm (decide_eq_decide.2 (by omega)) | exact (decide_eq_false (by omega)).symm | exact (decide_eq_true (by omega)).symm), hs.ent (.nil _)⟩))
    · refine EL.pass rfl rfl rfl ?_
      refine EL.pass rfl rfl rfl ?_
      refine EL.pickF rfl rfl rfl rfl ?_
      refine EL.move rfl rfl rfl ?_
      refine EL.pass rfl rfl rfl ?_
      refine EL.pass rfl rfl rfl ?_
      refine EL.pickF rfl rfl rfl rfl ?_
      refine EL.move rfl rfl rfl ?_
      refine EL.pass rfl rfl rfl ?_
      refine EL.pass rfl rfl rfl ?_
      refine EL.pickF rfl rfl rfl rfl ?_
      refine EL.assign rfl rfl rfl ?_
      refine EL.assign rfl rfl rfl ?_
      focus ((refine .go ?_; repeat constructor); exact PX.ret rfl Tryz.results160 (.cons (.tmp rfl) (.cons (.tmp rfl) .nil)) (fun w hs => ⟨(), congrArg (fun x => Ending.returned (.tuple #[.bool x, .bool true])) (by first | exact decide_eq_decide.2 (by omega) | exact Eq.trans decide_not.symm (decide_eq_decide.2 (by omega)) | exact (decide_eq_false (by omega)).symm | exact (decide_eq_true (by omega)).symm), hs.ent (.nil _)⟩))
  refine .go ?_; repeat constructor
  refine EL.eqlS rfl rfl rfl rfl ?_
  refine EL.assign rfl rfl rfl ?_
  refine .go ?_; repeat constructor
  refine ES.condD rfl (fun he10 => ?_) (fun hn10 => ?_)
  · subst he10
    refine .go ?_; repeat constructor
    refine EL.move rfl rfl rfl ?_
    refine EL.lss rfl rfl rfl rfl ?_
    refine EL.move rfl rfl rfl ?_
    first | refine EL.splitD (d := 108) rfl (fun hp108 => ?_) (fun hp108 => ?_) | refine EL.splitN (d := 108) rfl (fun hp108 => ?_) (fun hp108 => ?_) | refine EL.splitB (d := 108) rfl (fun hp108 => ?_) (fun hp108 => ?_)
    · refine EL.pass rfl rfl rfl ?_
      refine EL.pass rfl rfl rfl ?_
      refine EL.pickT rfl rfl rfl rfl ?_
      refine EL.assign rfl rfl rfl ?_
      refine EL.assign rfl rfl rfl ?_
      focus ((refine .go ?_; repeat constructor); exact PX.ret rfl Tryz.results160 (.cons (.tmp rfl) (.cons (.tmp rfl) .nil)) (fun w hs => ⟨(), congrArg (fun x => Ending.returned (.tuple #[.bool x, .bool true])) (by first | exact decide_eq_decide.2 (by omega) | exact Eq.trans decide_not.symm (decide_eq_decide.2 (by omega)) | exact (decide_eq_false (by omega)).symm | exact (decide_eq_true (by omega)).symm), hs.ent (.nil _)⟩))
    · refine EL.move rfl rfl rfl ?_
      refine EL.eqlI rfl rfl rfl rfl ?_
      refine EL.pickF rfl rfl rfl rfl ?_
      refine EL.assign rfl rfl rfl ?_
      refine EL.assign rfl rfl rfl ?_
      focus ((refine .go ?_; repeat constructor); exact PX.ret rfl Tryz.results160 (.cons (.tmp rfl) (.cons (.tmp rfl) .nil)) (fun w hs => ⟨(), congrArg (fun x => Ending.returned (.tuple #[.bool x, .bool true])) (by first | exact decide_eq_decide.2 (by omega) | exact Eq.trans decide_not.symm (decide_eq_decide.2 (by omega)) | exact (decide_eq_false (by omega)).symm | exact (decide_eq_true (by omega)).symm), hs.ent (.nil _)⟩))
  refine .go ?_; repeat constructor
  refine EL.eqlS rfl rfl rfl rfl ?_
  refine EL.assign rfl rfl rfl ?_
  refine .go ?_; repeat constructor
  refine ES.condD rfl (fun he11 => ?_) (fun hn11 => ?_)
  · subst he11
    refine .go ?_; repeat constructor
    refine EL.move rfl rfl rfl ?_
    refine EL.move rfl rfl rfl ?_
    first | refine EL.splitD (d := 115) rfl (fun hp115 => ?_) (fun hp115 => ?_) | refine EL.splitN (d := 115) rfl (fun hp115 => ?_) (fun hp115 => ?_) | refine EL.splitB (d := 115) rfl (fun hp115 => ?_) (fun hp115 => ?_)
    · refine EL.pass rfl rfl rfl ?_
      refine EL.pass rfl rfl rfl ?_
      refine EL.pass rfl rfl rfl ?_
      refine EL.pass rfl rfl rfl ?_
      refine EL.pass rfl rfl rfl ?_
      refine EL.pass rfl rfl rfl ?_
      refine EL.pickT rfl rfl rfl rfl ?_
      refine EL.move rfl rfl rfl ?_
      refine EL.pass rfl rfl rfl ?_
      refine EL.pass rfl rfl rfl ?_
      refine EL.pass rfl rfl rfl ?_
      refine EL.pass rfl rfl rfl ?_
      refine EL.pass rfl rfl rfl ?_
      refine EL.pass rfl rfl rfl ?_
      refine EL.pickT rfl rfl rfl rfl ?_
      refine EL.assign rfl rfl rfl ?_
      refine EL.assign rfl rfl rfl ?_
      focus ((refine .go ?_; repeat constructor); exact PX.ret rfl Tryz.results160 (.cons (.tmp rfl) (.cons (.tmp rfl) .nil)) (fun w hs => ⟨(), congrArg (fun x => Ending.returned (.tuple #[.bool x, .bool true])) (by first | exact decide_eq_decide.2 (by omega) | exact Eq.trans decide_not.symm (decide_eq_decide.2 (by omega)) | exact (decide_eq_false (by omega)).symm | exact (decide_eq_true (by omega)).symm), hs.ent (.nil _)⟩))
    · refine EL.move rfl rfl rfl ?_
      refine EL.geq rfl rfl rfl rfl ?_
      refine EL.move rfl rfl rfl ?_
      first | refine EL.splitD (d := 118) rfl (fun hp118 => ?_) (fun hp118 => ?_) | refine EL.splitN (d := 118) rfl (fun hp118 => ?_) (fun hp118 => ?_) | refine EL.splitB (d := 118) rfl (fun hp118 => ?_) (fun hp118 => ?_)
      · refine EL.move rfl rfl rfl ?_
        refine EL.leq rfl rfl rfl rfl ?_
        refine EL.pickT rfl rfl rfl rfl ?_
        refine EL.pickF rfl rfl rfl rfl ?_
        refine EL.move rfl rfl rfl ?_
        first | refine EL.splitD (d := 123) rfl (fun hp123 => ?_) (fun hp123 => ?_) | refine EL.splitN (d := 123) rfl (fun hp123 => ?_) (fun hp123 => ?_) | refine EL.splitB (d := 123) rfl (fun hp123 => ?_) (fun hp123 => ?_)
        · refine EL.pass rfl rfl rfl ?_
          refine EL.pass rfl rfl rfl ?_
          refine EL.pass rfl rfl rfl ?_
          refine EL.pass rfl rfl rfl ?_
          refine EL.pass rfl rfl rfl ?_
          refine EL.pass rfl rfl rfl ?_
          refine EL.pickT rfl rfl rfl rfl ?_
          refine EL.assign rfl rfl rfl ?_
          refine EL.assign rfl rfl rfl ?_
          focus ((refine .go ?_; repeat constructor); exact PX.ret rfl Tryz.results160 (.cons (.tmp rfl) (.cons (.tmp rfl) .nil)) (fun w hs => ⟨(), congrArg (fun x => Ending.returned (.tuple #[.bool x, .bool true])) (by first | exact decide_eq_decide.2 (by omega) | exact Eq.trans decide_not.symm (decide_eq_decide.2 (by omega)) | exact (decide_eq_false (by omega)).symm | exact (decide_eq_true (by omega)).symm), hs.ent (.nil _)⟩))
        · refine EL.move rfl rfl rfl ?_
          refine EL.geq rfl rfl rfl rfl ?_
          refine EL.move rfl rfl rfl ?_
          first | refine EL.splitD (d := 126) rfl (fun hp126 => ?_) (fun hp126 => ?_) | refine EL.splitN (d := 126) rfl (fun hp126 => ?_) (fun hp126 => ?_) | refine EL.splitB (d := 126) rfl (fun hp126 => ?_) (fun hp126 => ?_)
          · refine EL.move rfl rfl rfl ?_
            refine EL.leq rfl rfl rfl rfl ?_
            refine EL.pickT rfl rfl rfl rfl ?_
            refine EL.pickF rfl rfl rfl rfl ?_
            refine EL.assign rfl rfl rfl ?_
            refine EL.assign rfl rfl rfl ?_
            focus ((refine .go ?_; repeat constructor); exact PX.ret rfl Tryz.results160 (.cons (.tmp rfl) (.cons (.tmp rfl) .nil)) (fun w hs => ⟨(), congrArg (fun x => Ending.returned (.tuple #[.bool x, .bool true])) (by first | exact decide_eq_decide.2 (by omega) | exact Eq.trans decide_not.symm (decide_eq_decide.2 (by omega)) | exact (decide_eq_false (by omega)).symm | exact (decide_eq_true (by omega)).symm), hs.ent (.nil _)⟩))
          · refine EL.pass rfl rfl rfl ?_
            refine EL.pass rfl rfl rfl ?_
            refine EL.pickF rfl rfl rfl rfl ?_
            refine EL.pickF rfl rfl rfl rfl ?_
            refine EL.assign rfl rfl rfl ?_
            refine EL.assign rfl rfl rfl ?_
            focus ((refine .go ?_; repeat constructor); exact PX.ret rfl Tryz.results160 (.cons (.tmp rfl) (.cons (.tmp rfl) .nil)) (fun w hs => ⟨(), congrArg (fun x => Ending.returned (.tuple #[.bool x, .bool true])) (by first | exact decide_eq_decide.2 (by omega) | exact Eq.trans decide_not.symm (decide_eq_decide.2 (by omega)) | exact (decide_eq_false (by omega)).symm | exact (decide_eq_true (by omega)).symm), hs.ent (.nil _)⟩))
      · refine EL.pass rfl rfl rfl ?_
        refine EL.pass rfl rfl rfl ?_
        refine EL.pickF rfl rfl rfl rfl ?_
        refine EL.pickF rfl rfl rfl rfl ?_
        refine EL.move rfl rfl rfl ?_
        refine EL.move rfl rfl rfl ?_
        refine EL.geq rfl rfl rfl rfl ?_
        refine EL.move rfl rfl rfl ?_
        first | refine EL.splitD (d := 126) rfl (fun hp126 => ?_) (fun hp126 => ?_) | refine EL.splitN (d := 126) rfl (fun hp126 => ?_) (fun hp126 => ?_) | refine EL.splitB (d := 126) rfl (fun hp126 => ?_) (fun hp126 => ?_)
        · refine EL.move rfl rfl rfl ?_
          refine EL.leq rfl rfl rfl rfl ?_
          refine EL.pickT rfl rfl rfl rfl ?_
          refine EL.pickF rfl rfl rfl rfl ?_
          refine EL.assign rfl rfl rfl ?_
          refine EL.assign rfl rfl rfl ?_
          focus ((refine .go ?_; repeat constructor); exact PX.ret rfl Tryz.results160 (.cons (.tmp rfl) (.cons (.tmp rfl) .nil)) (fun w hs => ⟨(), congrArg (fun x => Ending.returned (.tuple #[.bool x, .bool true])) (by first | exact decide_eq_decide.2 (by omega) | exact Eq.trans decide_not.symm (decide_eq_decide.2 (by omega)) | exact (decide_eq_false (by omega)).symm | exact (decide_eq_true (by omega)).symm), hs.ent (.nil _)⟩))
        · refine EL.pass rfl rfl rfl ?_
          refine EL.pass rfl rfl rfl ?_
          refine EL.pickF rfl rfl rfl rfl ?_
          refine EL.pickF rfl rfl rfl rfl ?_
          refine EL.assign rfl rfl rfl ?_
          refine EL.assign rfl rfl rfl ?_
          focus ((refine .go ?_; repeat constructor); exact PX.ret rfl Tryz.results160 (.cons (.tmp rfl) (.cons (.tmp rfl) .nil)) (fun w hs => ⟨(), congrArg (fun x => Ending.returned (.tuple #[.bool x, .bool true])) (by first | exact decide_eq_decide.2 (by omega) | exact Eq.trans decide_not.symm (decide_eq_decide.2 (by omega)) | exact (decide_eq_false (by omega)).symm | exact (decide_eq_true (by omega)).symm), hs.ent (.nil _)⟩))
  have hne : isB l b.toNat = false := by simp only [isB, *, if_false]
  have hno : okM l = false := decide_eq_false (by simp only [names12, List.mem_cons, List.not_mem_nil, or_false, *, not_false_eq_true])
  refine .go ?_; repeat constructor
  refine EL.assign rfl rfl rfl ?_
  refine EL.assign rfl rfl rfl ?_
  refine .go ?_; repeat constructor
  exact PX.ret rfl Tryz.results160 (.cons (.tmp rfl) (.cons (.tmp rfl) .nil)) (fun w hs => ⟨(), by rw [hne, hno]; rfl, hs.ent (.nil _)⟩)
theorem is_ck (l : List UInt8) (b : UInt8) (k : Nat) (hk : b.toNat = k) (w : World) : Pure Tryz.prog 160 #[Sv l, Uv b] (fun _ : Unit => .tuple #[.bool (isB l k), .bool (okM l)]) (fun _ => []) w := by subst hk; exact is_c l b w
theorem add_ck (g : Nat) (s : BS) (b : UInt8) (k : Nat) (hk : b.toNat = k) : Mut Tryz.prog 149 #[Pv g 0, Uv b] [SB g s] (fun _ : Unit => .tuple #[]) (fun _ => [SB g (addS s k)]) := by subst hk; exact add_c g s b
theorem class_c (l : List UInt8) (w : World) : Pure Tryz.prog 156 #[Sv l] (fun _ : Unit => .tuple #[Bs (classM l).1, Iv (classM l).2]) (fun _ => []) w := by
  refine calls_of_ES TB Tryz.func156 rfl _ Tryz.ntmps156 rfl (Sat.start w) ?_
  refine .go ?_; repeat constructor
  (refine EL.alloc rfl rfl rfl ?_; intro g2)
  refine EL.assign rfl rfl rfl ?_
  refine .go ?_; repeat constructor
  (refine EL.alloc rfl rfl rfl ?_; intro g4)
  refine .go ?_; repeat constructor
  refine EL.move rfl rfl rfl ?_
  refine .go ?_; repeat constructor
  refine ES.blkEq (g := g4) (o' := .cells (fillS (isB l) 0).cells 43) (by repeat constructor) (by rw [fillS]; rfl) ?_
  refine ES.loop (σ := Nat) (fun i => i ≤ 256 ∧ (0 < i → l ∈ names12)) (fun i => [(0, Sv l), (2, Pv g2 0), (4, Pv g4 0), (8, Iv i)]) (fun i => [SB g4 (fillS (isB l) i), SB g2 zeroS]) (fun i => 256 - i) 0 ⟨by omega, fun h => absurd h (by omega)⟩ ⟨rfl, rfl, rfl, rfl, trivial⟩ (.i (by repeat constructor)) ?_
  rintro i ⟨hi, hpos⟩
  refine .go ?_; repeat constructor
  refine EL.lss rfl rfl rfl rfl ?_
  refine .go ?_; repeat constructor
  refine ES.condD rfl (fun hlt => ?_) (fun hge => ?_)
  · have hlt' : i < 256 := by omega
    have hk8 : (UInt8.ofNat i).toNat = i := by simp; omega
    have ha := add_ck g4 (fillS (isB l) i) (UInt8.ofNat i) i hk8
    refine .go ?_; repeat constructor
    refine EL.move rfl rfl rfl ?_
    refine EL.assign rfl rfl rfl ?_
    refine .go ?_; repeat constructor
    refine EL.move rfl rfl rfl ?_
    refine EL.move rfl rfl rfl ?_
    refine EL.convI ((UInt8.ofNat i).toNat : Int) rfl rfl rfl rfl rfl rfl (by rw [hk8]; exact wrap_u8 _ hlt') ?_
    refine EL.callP rfl rfl rfl ent160 rfl (is_ck l (UInt8.ofNat i) i hk8) ?_
    refine EL.move rfl rfl rfl ?_
    refine EL.extract rfl rfl rfl rfl ?_
    refine EL.extract rfl rfl rfl rfl ?_
    refine EL.assign rfl rfl rfl ?_
    refine EL.assign rfl rfl rfl ?_
    refine .go ?_; repeat constructor
    refine EL.move rfl rfl rfl ?_
    refine EL.not rfl rfl rfl ?_
    refine .go ?_; repeat constructor
    refine ES.condN (p := l ∈ names12) rfl (fun hno => ?_) (fun hok => ?_)
    · have hok0 : okM l = false := decide_eq_false hno
      have hm : classM l = (zeroS, 8) := by simp only [classM, hok0, Bool.false_eq_true, if_false]
      refine .go ?_; repeat constructor
      refine EL.buildZA rfl rfl rfl rfl rfl ?_
      (apply EL.storeAll; exact rfl; exact rfl; exact rfl; exact rfl; exact rfl; (case p => repeat constructor); exact rfl; (case h1 => exact (by first | rfl | exact all1 rfl | (intro u hu; simp only [List.mem_cons, List.not_mem_nil, or_false] at hu; rcases hu with rfl | rfl | rfl | rfl <;> rfl) | (intro u hu; simp at hu; rcases hu with rfl | rfl | rfl | rfl <;> rfl) | (intro u hu; simp at hu; rcases hu with rfl | rfl | rfl <;> rfl) | (intro u hu; simp at hu; rcases hu with rfl | rfl <;> rfl) | (intro u hu; simp at hu; obtain ⟨_, _, rfl⟩ := hu; rfl))))
      refine EL.assign rfl rfl rfl ?_
      refine .go ?_; repeat constructor
      exact PX.ret rfl Tryz.results156 (.cons (.blkA rfl rfl rfl (by repeat constructor) rfl) (.cons (.tmp rfl) .nil)) (fun w hs => ⟨(), by rw [hm]; rfl, hs.ent (.nil _)⟩)
    · have hfs : ∀ hb : isB l i = true, addS (fillS (isB l) i) i = fillS (isB l) (i + 1) := fun hb => by rw [fillS, if_pos hb]
      have hfn : ∀ hb : isB l i = false, fillS (isB l) i = fillS (isB l) (i + 1) := fun hb => by rw [fillS, if_neg (by rw [hb]; simp)]
      refine .go ?_; repeat constructor
      refine EL.move rfl rfl rfl ?_
      refine .go ?_; repeat constructor
      refine ES.cutC (X := Unit) (fun _ => [(0, Sv l), (2, Pv g2 0), (4, Pv g4 0), (8, Iv i)]) (fun _ => [SB g4 (fillS (isB l) (i + 1)), SB g2 zeroS]) ?_ (fun _ => ?_)
      · refine ES.cond rfl (fun hb => ?_) (fun hb => ?_)
        · rw [hfs hb] at ha
          refine .go ?_; repeat constructor
          refine EL.move rfl rfl rfl ?_
          refine EL.convI ((UInt8.ofNat i).toNat : Int) rfl rfl rfl rfl rfl rfl (by rw [hk8]; exact wrap_u8 _ hlt') ?_
          refine EL.callM1 rfl rfl rfl ent149 rfl ha (by repeat constructor) ?_
          refine .go ?_; repeat constructor
          exact PX.cutX () ⟨rfl, rfl, rfl, rfl, trivial⟩ (.i (by repeat constructor))
        · rw [hfn hb]
          refine .go ?_; repeat constructor
          exact PX.cutX () ⟨rfl, rfl, rfl, rfl, trivial⟩ (.i (by repeat constructor))
      refine .go ?_; repeat constructor
      refine EL.add1 rfl rfl rfl rfl (by omega) ?_
      refine EL.move rfl rfl rfl ?_
      refine .go ?_; repeat constructor
      exact PX.loop (i + 1) ⟨by omega, fun _ => hok⟩ (by omega) ⟨rfl, rfl, rfl, rfl, trivial⟩ (.i (by repeat constructor))
  · obtain rfl : i = 256 := by omega
    have hok1 : okM l = true := decide_eq_true (hpos (by omega))
    have hm : classM l = (fillS (isB l) 256, 0) := by simp only [classM, hok1, if_true]
    refine .go ?_; repeat constructor
    (apply EL.loadAggB; exact rfl; exact rfl; exact rfl; exact rfl; exact rfl; (case hm => repeat constructor); exact rfl)
    (apply EL.storeAll; exact rfl; exact rfl; exact rfl; exact rfl; exact rfl; (case p => repeat constructor); exact rfl; (case h1 => exact (by first | rfl | exact all1 rfl | (intro u hu; simp only [List.mem_cons, List.not_mem_nil, or_false] at hu; rcases hu with rfl | rfl | rfl | rfl <;> rfl) | (intro u hu; simp at hu; rcases hu with rfl | rfl | rfl | rfl <;> rfl) | (intro u hu; simp at hu; rcases hu with rfl | rfl | rfl <;> rfl) | (intro u hu; simp at hu; rcases hu with rfl | rfl <;> rfl) | (intro u hu; simp at hu; obtain ⟨_, _, rfl⟩ := hu; rfl))))
    refine EL.assign rfl rfl rfl ?_
    refine .go ?_; repeat constructor
    exact PX.ret rfl Tryz.results156 (.cons (.blkA rfl rfl rfl (by repeat constructor) rfl) (.cons (.tmp rfl) .nil)) (fun w hs => ⟨(), by rw [hm]; rfl, hs.ent (.nil _)⟩)
end Go.Proofs.YtblpgpgbnlhjlaaGreat
