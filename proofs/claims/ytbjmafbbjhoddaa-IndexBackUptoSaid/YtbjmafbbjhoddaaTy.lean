/- The types of this seat's program: shapes, sizes, zero values. -/
import Derived.Test.YtbjmafbbjhoddaaProg
import Derived.Test.YtbjmafbbjhoddaaPvM1
import Derived.KernelRfl
namespace Go.Proofs.Ytbjmafbbjhoddaa.Pv
open Go
set_option maxRecDepth 100000
def ti2 : TI := ⟨.int .i64, 1, 8, [.int .i64 0]⟩
theorem ty2 : TyOK Try.prog 2 ti2 := .mk' (z := .int .i64 0) Try.underlying2 (by kernel_rfl) rfl rfl
def ti3 : TI := ⟨.int .i64, 1, 8, [.int .i64 0]⟩
theorem ty3 : TyOK Try.prog 3 ti3 := .mk' (z := .int .i64 0) Try.underlying3 (by kernel_rfl) rfl rfl
def ti4 : TI := ⟨.bool, 1, 1, [.bool false]⟩
theorem ty4 : TyOK Try.prog 4 ti4 := .mk' (z := .bool false) Try.underlying4 (by kernel_rfl) rfl rfl
def ti5 : TI := ⟨.int .u8, 1, 1, [.int .u8 0]⟩
theorem ty5 : TyOK Try.prog 5 ti5 := .mk' (z := .int .u8 0) Try.underlying5 (by kernel_rfl) rfl rfl
def ti9 : TI := ⟨.string, 1, 16, [.str ByteArray.empty]⟩
theorem ty9 : TyOK Try.prog 9 ti9 := .mk' (z := .string ByteArray.empty) Try.underlying9 (by kernel_rfl) rfl rfl
def ti12 : TI := ⟨.int .u64, 1, 8, [.int .u64 0]⟩
theorem ty12 : TyOK Try.prog 12 ti12 := .mk' (z := .int .u64 0) Try.underlying12 (by kernel_rfl) rfl rfl
def ti13 : TI := ⟨.struct #[⟨"msg", 9, 0, false, "", "runtime", 0⟩, ⟨"addr", 12, 1, false, "", "runtime", 16⟩], 2, 24, [.str ByteArray.empty, .int .u64 0]⟩
theorem ty13 : TyOK Try.prog 13 ti13 := .mk' (z := .agg #[.string ByteArray.empty, .int .u64 0]) Try.underlying13 (by kernel_rfl) rfl rfl
def ti21 : TI := ⟨.int .i32, 1, 4, [.int .i32 0]⟩
theorem ty21 : TyOK Try.prog 21 ti21 := .mk' (z := .int .i32 0) Try.underlying21 (by kernel_rfl) rfl rfl
def ti22 : TI := ⟨.slice 50, 1, 24, [.sl .sh 9 []]⟩
theorem ty22 : TyOK Try.prog 22 ti22 := .mk' (z := .slice none 0 0) Try.underlying22 (by kernel_rfl) rfl rfl
def ti23 : TI := ⟨.slice 47, 1, 24, [.sl .sh 5 []]⟩
theorem ty23 : TyOK Try.prog 23 ti23 := .mk' (z := .slice none 0 0) Try.underlying23 (by kernel_rfl) rfl rfl
def ti24 : TI := ⟨.slice 39, 1, 24, [.sl .sh 8 []]⟩
theorem ty24 : TyOK Try.prog 24 ti24 := .mk' (z := .slice none 0 0) Try.underlying24 (by kernel_rfl) rfl rfl
def ti25 : TI := ⟨.struct #[⟨"Vols", 22, 0, false, "", "", 0⟩, ⟨"Names", 23, 1, false, "", "", 24⟩, ⟨"Last", 24, 2, false, "", "", 48⟩], 3, 72, [.sl .sh 9 [], .sl .sh 5 [], .sl .sh 8 []]⟩
theorem ty25 : TyOK Try.prog 25 ti25 := .mk' (z := .agg #[.slice none 0 0, .slice none 0 0, .slice none 0 0]) Try.underlying25 (by kernel_rfl) rfl rfl
def ti26 : TI := ⟨.struct #[⟨"Vols", 22, 0, false, "", "", 0⟩, ⟨"Names", 23, 1, false, "", "", 24⟩, ⟨"Last", 24, 2, false, "", "", 48⟩], 3, 72, [.sl .sh 9 [], .sl .sh 5 [], .sl .sh 8 []]⟩
theorem ty26 : TyOK Try.prog 26 ti26 := .mk' (z := .agg #[.slice none 0 0, .slice none 0 0, .slice none 0 0]) Try.underlying26 (by kernel_rfl) rfl rfl
def ti27 : TI := ⟨.int .u32, 1, 4, [.int .u32 0]⟩
theorem ty27 : TyOK Try.prog 27 ti27 := .mk' (z := .int .u32 0) Try.underlying27 (by kernel_rfl) rfl rfl
def ti28 : TI := ⟨.slice 57, 1, 24, [.sl .sh 2 []]⟩
theorem ty28 : TyOK Try.prog 28 ti28 := .mk' (z := .slice none 0 0) Try.underlying28 (by kernel_rfl) rfl rfl
def ti29 : TI := ⟨.struct #[⟨"Kind", 3, 0, false, "", "", 0⟩, ⟨"Client", 3, 1, false, "", "", 8⟩, ⟨"Seq", 3, 2, false, "", "", 16⟩, ⟨"Name", 9, 3, false, "", "", 24⟩, ⟨"Vol", 3, 4, false, "", "", 40⟩, ⟨"Off", 3, 5, false, "", "", 48⟩, ⟨"N", 3, 6, false, "", "", 56⟩, ⟨"Sum", 27, 7, false, "", "", 64⟩, ⟨"Region", 3, 8, false, "", "", 72⟩, ⟨"Mate", 3, 9, false, "", "", 80⟩, ⟨"Idx", 3, 10, false, "", "", 88⟩, ⟨"Places", 28, 11, false, "", "", 96⟩], 12, 120, [.int .i64 0, .int .i64 0, .int .i64 0, .str ByteArray.empty, .int .i64 0, .int .i64 0, .int .i64 0, .int .u32 0, .int .i64 0, .int .i64 0, .int .i64 0, .sl .sh 2 []]⟩
theorem ty29 : TyOK Try.prog 29 ti29 := .mk' (z := .agg #[.int .i64 0, .int .i64 0, .int .i64 0, .string ByteArray.empty, .int .i64 0, .int .i64 0, .int .i64 0, .int .u32 0, .int .i64 0, .int .i64 0, .int .i64 0, .slice none 0 0]) Try.underlying29 (by kernel_rfl) rfl rfl
def ti30 : TI := ⟨.struct #[⟨"Kind", 3, 0, false, "", "", 0⟩, ⟨"Client", 3, 1, false, "", "", 8⟩, ⟨"Seq", 3, 2, false, "", "", 16⟩, ⟨"Name", 9, 3, false, "", "", 24⟩, ⟨"Vol", 3, 4, false, "", "", 40⟩, ⟨"Off", 3, 5, false, "", "", 48⟩, ⟨"N", 3, 6, false, "", "", 56⟩, ⟨"Sum", 27, 7, false, "", "", 64⟩, ⟨"Region", 3, 8, false, "", "", 72⟩, ⟨"Mate", 3, 9, false, "", "", 80⟩, ⟨"Idx", 3, 10, false, "", "", 88⟩, ⟨"Places", 28, 11, false, "", "", 96⟩], 12, 120, [.int .i64 0, .int .i64 0, .int .i64 0, .str ByteArray.empty, .int .i64 0, .int .i64 0, .int .i64 0, .int .u32 0, .int .i64 0, .int .i64 0, .int .i64 0, .sl .sh 2 []]⟩
theorem ty30 : TyOK Try.prog 30 ti30 := .mk' (z := .agg #[.int .i64 0, .int .i64 0, .int .i64 0, .string ByteArray.empty, .int .i64 0, .int .i64 0, .int .i64 0, .int .u32 0, .int .i64 0, .int .i64 0, .int .i64 0, .slice none 0 0]) Try.underlying30 (by kernel_rfl) rfl rfl
def ti33 : TI := ⟨.int .i64, 1, 8, [.int .i64 0]⟩
theorem ty33 : TyOK Try.prog 33 ti33 := .mk' (z := .int .i64 0) Try.underlying33 (by kernel_rfl) rfl rfl
def ti34 : TI := ⟨.struct #[⟨"Err", 33, 0, false, "", "", 0⟩, ⟨"Vol", 3, 1, false, "", "", 8⟩, ⟨"Off", 3, 2, false, "", "", 16⟩, ⟨"N", 3, 3, false, "", "", 24⟩, ⟨"Sum", 27, 4, false, "", "", 32⟩, ⟨"Found", 4, 5, false, "", "", 36⟩], 6, 40, [.int .i64 0, .int .i64 0, .int .i64 0, .int .i64 0, .int .u32 0, .bool false]⟩
theorem ty34 : TyOK Try.prog 34 ti34 := .mk' (z := .agg #[.int .i64 0, .int .i64 0, .int .i64 0, .int .i64 0, .int .u32 0, .bool false]) Try.underlying34 (by kernel_rfl) rfl rfl
def ti35 : TI := ⟨.struct #[⟨"Err", 33, 0, false, "", "", 0⟩, ⟨"Vol", 3, 1, false, "", "", 8⟩, ⟨"Off", 3, 2, false, "", "", 16⟩, ⟨"N", 3, 3, false, "", "", 24⟩, ⟨"Sum", 27, 4, false, "", "", 32⟩, ⟨"Found", 4, 5, false, "", "", 36⟩], 6, 40, [.int .i64 0, .int .i64 0, .int .i64 0, .int .i64 0, .int .u32 0, .bool false]⟩
theorem ty35 : TyOK Try.prog 35 ti35 := .mk' (z := .agg #[.int .i64 0, .int .i64 0, .int .i64 0, .int .i64 0, .int .u32 0, .bool false]) Try.underlying35 (by kernel_rfl) rfl rfl
def ti38 : TI := ⟨.struct #[⟨"Client", 3, 0, false, "", "", 0⟩, ⟨"Seq", 3, 1, false, "", "", 8⟩, ⟨"Reply", 35, 2, false, "", "", 16⟩], 8, 56, [.int .i64 0, .int .i64 0, .int .i64 0, .int .i64 0, .int .i64 0, .int .i64 0, .int .u32 0, .bool false]⟩
theorem ty38 : TyOK Try.prog 38 ti38 := .mk' (z := .agg #[.int .i64 0, .int .i64 0, .int .i64 0, .int .i64 0, .int .i64 0, .int .i64 0, .int .u32 0, .bool false]) Try.underlying38 (by kernel_rfl) rfl rfl
def ti39 : TI := ⟨.struct #[⟨"Client", 3, 0, false, "", "", 0⟩, ⟨"Seq", 3, 1, false, "", "", 8⟩, ⟨"Reply", 35, 2, false, "", "", 16⟩], 8, 56, [.int .i64 0, .int .i64 0, .int .i64 0, .int .i64 0, .int .i64 0, .int .i64 0, .int .u32 0, .bool false]⟩
theorem ty39 : TyOK Try.prog 39 ti39 := .mk' (z := .agg #[.int .i64 0, .int .i64 0, .int .i64 0, .int .i64 0, .int .i64 0, .int .i64 0, .int .u32 0, .bool false]) Try.underlying39 (by kernel_rfl) rfl rfl
def ti44 : TI := ⟨.slice 30, 1, 24, [.sl .sh 12 []]⟩
theorem ty44 : TyOK Try.prog 44 ti44 := .mk' (z := .slice none 0 0) Try.underlying44 (by kernel_rfl) rfl rfl
def ti46 : TI := ⟨.struct #[⟨"Name", 9, 0, false, "", "", 0⟩, ⟨"Vol", 3, 1, false, "", "", 16⟩, ⟨"Off", 3, 2, false, "", "", 24⟩, ⟨"N", 3, 3, false, "", "", 32⟩, ⟨"Sum", 27, 4, false, "", "", 40⟩], 5, 48, [.str ByteArray.empty, .int .i64 0, .int .i64 0, .int .i64 0, .int .u32 0]⟩
theorem ty46 : TyOK Try.prog 46 ti46 := .mk' (z := .agg #[.string ByteArray.empty, .int .i64 0, .int .i64 0, .int .i64 0, .int .u32 0]) Try.underlying46 (by kernel_rfl) rfl rfl
def ti47 : TI := ⟨.struct #[⟨"Name", 9, 0, false, "", "", 0⟩, ⟨"Vol", 3, 1, false, "", "", 16⟩, ⟨"Off", 3, 2, false, "", "", 24⟩, ⟨"N", 3, 3, false, "", "", 32⟩, ⟨"Sum", 27, 4, false, "", "", 40⟩], 5, 48, [.str ByteArray.empty, .int .i64 0, .int .i64 0, .int .i64 0, .int .u32 0]⟩
theorem ty47 : TyOK Try.prog 47 ti47 := .mk' (z := .agg #[.string ByteArray.empty, .int .i64 0, .int .i64 0, .int .i64 0, .int .u32 0]) Try.underlying47 (by kernel_rfl) rfl rfl
def ti48 : TI := ⟨.slice 54, 1, 24, [.sl .sh 2 []]⟩
theorem ty48 : TyOK Try.prog 48 ti48 := .mk' (z := .slice none 0 0) Try.underlying48 (by kernel_rfl) rfl rfl
def ti49 : TI := ⟨.struct #[⟨"Id", 3, 0, false, "", "", 0⟩, ⟨"Home", 3, 1, false, "", "", 8⟩, ⟨"Mate", 3, 2, false, "", "", 16⟩, ⟨"Used", 3, 3, false, "", "", 24⟩, ⟨"Phase", 3, 4, false, "", "", 32⟩, ⟨"Parts", 48, 5, false, "", "", 40⟩, ⟨"Places", 28, 6, false, "", "", 64⟩, ⟨"Pair", 3, 7, false, "", "", 88⟩, ⟨"Sum", 3, 8, false, "", "", 96⟩], 9, 104, [.int .i64 0, .int .i64 0, .int .i64 0, .int .i64 0, .int .i64 0, .sl .sh 2 [], .sl .sh 2 [], .int .i64 0, .int .i64 0]⟩
theorem ty49 : TyOK Try.prog 49 ti49 := .mk' (z := .agg #[.int .i64 0, .int .i64 0, .int .i64 0, .int .i64 0, .int .i64 0, .slice none 0 0, .slice none 0 0, .int .i64 0, .int .i64 0]) Try.underlying49 (by kernel_rfl) rfl rfl
def ti50 : TI := ⟨.struct #[⟨"Id", 3, 0, false, "", "", 0⟩, ⟨"Home", 3, 1, false, "", "", 8⟩, ⟨"Mate", 3, 2, false, "", "", 16⟩, ⟨"Used", 3, 3, false, "", "", 24⟩, ⟨"Phase", 3, 4, false, "", "", 32⟩, ⟨"Parts", 48, 5, false, "", "", 40⟩, ⟨"Places", 28, 6, false, "", "", 64⟩, ⟨"Pair", 3, 7, false, "", "", 88⟩, ⟨"Sum", 3, 8, false, "", "", 96⟩], 9, 104, [.int .i64 0, .int .i64 0, .int .i64 0, .int .i64 0, .int .i64 0, .sl .sh 2 [], .sl .sh 2 [], .int .i64 0, .int .i64 0]⟩
theorem ty50 : TyOK Try.prog 50 ti50 := .mk' (z := .agg #[.int .i64 0, .int .i64 0, .int .i64 0, .int .i64 0, .int .i64 0, .slice none 0 0, .slice none 0 0, .int .i64 0, .int .i64 0]) Try.underlying50 (by kernel_rfl) rfl rfl
def ti53 : TI := ⟨.struct #[⟨"Off", 3, 0, false, "", "", 0⟩, ⟨"N", 3, 1, false, "", "", 8⟩], 2, 16, [.int .i64 0, .int .i64 0]⟩
theorem ty53 : TyOK Try.prog 53 ti53 := .mk' (z := .agg #[.int .i64 0, .int .i64 0]) Try.underlying53 (by kernel_rfl) rfl rfl
def ti54 : TI := ⟨.struct #[⟨"Off", 3, 0, false, "", "", 0⟩, ⟨"N", 3, 1, false, "", "", 8⟩], 2, 16, [.int .i64 0, .int .i64 0]⟩
theorem ty54 : TyOK Try.prog 54 ti54 := .mk' (z := .agg #[.int .i64 0, .int .i64 0]) Try.underlying54 (by kernel_rfl) rfl rfl
def ti56 : TI := ⟨.struct #[⟨"Region", 3, 0, false, "", "", 0⟩, ⟨"Node", 3, 1, false, "", "", 8⟩], 2, 16, [.int .i64 0, .int .i64 0]⟩
theorem ty56 : TyOK Try.prog 56 ti56 := .mk' (z := .agg #[.int .i64 0, .int .i64 0]) Try.underlying56 (by kernel_rfl) rfl rfl
def ti57 : TI := ⟨.struct #[⟨"Region", 3, 0, false, "", "", 0⟩, ⟨"Node", 3, 1, false, "", "", 8⟩], 2, 16, [.int .i64 0, .int .i64 0]⟩
theorem ty57 : TyOK Try.prog 57 ti57 := .mk' (z := .agg #[.int .i64 0, .int .i64 0]) Try.underlying57 (by kernel_rfl) rfl rfl
def ti59 : TI := ⟨.struct #[⟨"X", 26, 0, false, "", "", 0⟩, ⟨"C", 30, 3, false, "", "", 72⟩, ⟨"Id", 3, 15, false, "", "", 192⟩, ⟨"Name", 9, 16, false, "", "", 200⟩], 17, 216, [.sl .sh 9 [], .sl .sh 5 [], .sl .sh 8 [], .int .i64 0, .int .i64 0, .int .i64 0, .str ByteArray.empty, .int .i64 0, .int .i64 0, .int .i64 0, .int .u32 0, .int .i64 0, .int .i64 0, .int .i64 0, .sl .sh 2 [], .int .i64 0, .str ByteArray.empty]⟩
theorem ty59 : TyOK Try.prog 59 ti59 := .mk' (z := .agg #[.slice none 0 0, .slice none 0 0, .slice none 0 0, .int .i64 0, .int .i64 0, .int .i64 0, .string ByteArray.empty, .int .i64 0, .int .i64 0, .int .i64 0, .int .u32 0, .int .i64 0, .int .i64 0, .int .i64 0, .slice none 0 0, .int .i64 0, .string ByteArray.empty]) Try.underlying59 (by kernel_rfl) rfl rfl
def ti60 : TI := ⟨.struct #[⟨"X", 26, 0, false, "", "", 0⟩, ⟨"C", 30, 3, false, "", "", 72⟩, ⟨"Id", 3, 15, false, "", "", 192⟩, ⟨"Name", 9, 16, false, "", "", 200⟩], 17, 216, [.sl .sh 9 [], .sl .sh 5 [], .sl .sh 8 [], .int .i64 0, .int .i64 0, .int .i64 0, .str ByteArray.empty, .int .i64 0, .int .i64 0, .int .i64 0, .int .u32 0, .int .i64 0, .int .i64 0, .int .i64 0, .sl .sh 2 [], .int .i64 0, .str ByteArray.empty]⟩
theorem ty60 : TyOK Try.prog 60 ti60 := .mk' (z := .agg #[.slice none 0 0, .slice none 0 0, .slice none 0 0, .int .i64 0, .int .i64 0, .int .i64 0, .string ByteArray.empty, .int .i64 0, .int .i64 0, .int .i64 0, .int .u32 0, .int .i64 0, .int .i64 0, .int .i64 0, .slice none 0 0, .int .i64 0, .string ByteArray.empty]) Try.underlying60 (by kernel_rfl) rfl rfl
def ti64 : TI := ⟨.struct #[⟨"X", 26, 0, false, "", "", 0⟩, ⟨"Id", 3, 3, false, "", "", 72⟩, ⟨"Name", 9, 4, false, "", "", 80⟩, ⟨"Other", 26, 5, false, "", "", 96⟩], 8, 168, [.sl .sh 9 [], .sl .sh 5 [], .sl .sh 8 [], .int .i64 0, .str ByteArray.empty, .sl .sh 9 [], .sl .sh 5 [], .sl .sh 8 []]⟩
theorem ty64 : TyOK Try.prog 64 ti64 := .mk' (z := .agg #[.slice none 0 0, .slice none 0 0, .slice none 0 0, .int .i64 0, .string ByteArray.empty, .slice none 0 0, .slice none 0 0, .slice none 0 0]) Try.underlying64 (by kernel_rfl) rfl rfl
def ti65 : TI := ⟨.struct #[⟨"X", 26, 0, false, "", "", 0⟩, ⟨"Id", 3, 3, false, "", "", 72⟩, ⟨"Name", 9, 4, false, "", "", 80⟩, ⟨"Other", 26, 5, false, "", "", 96⟩], 8, 168, [.sl .sh 9 [], .sl .sh 5 [], .sl .sh 8 [], .int .i64 0, .str ByteArray.empty, .sl .sh 9 [], .sl .sh 5 [], .sl .sh 8 []]⟩
theorem ty65 : TyOK Try.prog 65 ti65 := .mk' (z := .agg #[.slice none 0 0, .slice none 0 0, .slice none 0 0, .int .i64 0, .string ByteArray.empty, .slice none 0 0, .slice none 0 0, .slice none 0 0]) Try.underlying65 (by kernel_rfl) rfl rfl
def ti97 : TI := ⟨.pointer 100, 1, 8, [.nilptr]⟩
theorem ty97 : TyOK Try.prog 97 ti97 := .mk' (z := .pointer none) Try.underlying97 (by kernel_rfl) rfl rfl
def ti98 : TI := ⟨.slice 5, 1, 24, [.sl .sh 1 []]⟩
theorem ty98 : TyOK Try.prog 98 ti98 := .mk' (z := .slice none 0 0) Try.underlying98 (by kernel_rfl) rfl rfl
def ti99 : TI := ⟨.struct #[⟨"addr", 97, 0, false, "", "strings", 0⟩, ⟨"buf", 98, 1, false, "", "strings", 8⟩], 2, 32, [.nilptr, .sl .sh 1 []]⟩
theorem ty99 : TyOK Try.prog 99 ti99 := .mk' (z := .agg #[.pointer none, .slice none 0 0]) Try.underlying99 (by kernel_rfl) rfl rfl
def ti100 : TI := ⟨.struct #[⟨"addr", 97, 0, false, "", "strings", 0⟩, ⟨"buf", 98, 1, false, "", "strings", 8⟩], 2, 32, [.nilptr, .sl .sh 1 []]⟩
theorem ty100 : TyOK Try.prog 100 ti100 := .mk' (z := .agg #[.pointer none, .slice none 0 0]) Try.underlying100 (by kernel_rfl) rfl rfl
def ti101 : TI := ⟨.slice 3, 1, 24, [.sl .sh 1 []]⟩
theorem ty101 : TyOK Try.prog 101 ti101 := .mk' (z := .slice none 0 0) Try.underlying101 (by kernel_rfl) rfl rfl
def ti107 : TI := ⟨.int .u64, 1, 8, [.int .u64 0]⟩
theorem ty107 : TyOK Try.prog 107 ti107 := .mk' (z := .int .u64 0) Try.underlying107 (by kernel_rfl) rfl rfl
def ti112 : TI := ⟨.struct #[], 0, 0, []⟩
theorem ty112 : TyOK Try.prog 112 ti112 := .mk' (z := .agg #[]) Try.underlying112 (by kernel_rfl) rfl rfl
def ti113 : TI := ⟨.struct #[], 0, 0, []⟩
theorem ty113 : TyOK Try.prog 113 ti113 := .mk' (z := .agg #[]) Try.underlying113 (by kernel_rfl) rfl rfl
def ti115 : TI := ⟨.pointer 117, 1, 8, [.nilptr]⟩
theorem ty115 : TyOK Try.prog 115 ti115 := .mk' (z := .pointer none) Try.underlying115 (by kernel_rfl) rfl rfl
def ti116 : TI := ⟨.struct #[⟨"s", 9, 0, false, "", "hogshead/index", 0⟩], 1, 16, [.str ByteArray.empty]⟩
theorem ty116 : TyOK Try.prog 116 ti116 := .mk' (z := .agg #[.string ByteArray.empty]) Try.underlying116 (by kernel_rfl) rfl rfl
def ti117 : TI := ⟨.struct #[⟨"s", 9, 0, false, "", "hogshead/index", 0⟩], 1, 16, [.str ByteArray.empty]⟩
theorem ty117 : TyOK Try.prog 117 ti117 := .mk' (z := .agg #[.string ByteArray.empty]) Try.underlying117 (by kernel_rfl) rfl rfl
def ti121 : TI := ⟨.pointer 3, 1, 8, [.nilptr]⟩
theorem ty121 : TyOK Try.prog 121 ti121 := .mk' (z := .pointer none) Try.underlying121 (by kernel_rfl) rfl rfl
def ti122 : TI := ⟨.slice 121, 1, 24, [.sl .sh 1 []]⟩
theorem ty122 : TyOK Try.prog 122 ti122 := .mk' (z := .slice none 0 0) Try.underlying122 (by kernel_rfl) rfl rfl
def ti142 : TI := ⟨.array 10 5, 10, 10, [.int .u8 0, .int .u8 0, .int .u8 0, .int .u8 0, .int .u8 0, .int .u8 0, .int .u8 0, .int .u8 0, .int .u8 0, .int .u8 0]⟩
theorem ty142 : TyOK Try.prog 142 ti142 := .mk' (z := .agg #[.int .u8 0, .int .u8 0, .int .u8 0, .int .u8 0, .int .u8 0, .int .u8 0, .int .u8 0, .int .u8 0, .int .u8 0, .int .u8 0]) Try.underlying142 (by kernel_rfl) rfl rfl
def ti143 : TI := ⟨.int .u64, 1, 8, [.int .u64 0]⟩
theorem ty143 : TyOK Try.prog 143 ti143 := .mk' (z := .int .u64 0) Try.underlying143 (by kernel_rfl) rfl rfl
def ti144 : TI := ⟨.pointer 5, 1, 8, [.nilptr]⟩
theorem ty144 : TyOK Try.prog 144 ti144 := .mk' (z := .pointer none) Try.underlying144 (by kernel_rfl) rfl rfl
def ti173 : TI := ⟨.array 0 16, 0, 0, []⟩
theorem ty173 : TyOK Try.prog 173 ti173 := .mk' (z := .agg #[]) Try.underlying173 (by kernel_rfl) rfl rfl
def ti174 : TI := ⟨.struct #[⟨"_", 173, 0, false, "", "runtime", 0⟩], 0, 0, []⟩
theorem ty174 : TyOK Try.prog 174 ti174 := .mk' (z := .agg #[]) Try.underlying174 (by kernel_rfl) rfl rfl
def tt : TT := [(2, ti2), (3, ti3), (4, ti4), (5, ti5), (9, ti9), (12, ti12), (13, ti13), (21, ti21), (22, ti22), (23, ti23), (24, ti24), (25, ti25), (26, ti26), (27, ti27), (28, ti28), (29, ti29), (30, ti30), (33, ti33), (34, ti34), (35, ti35), (38, ti38), (39, ti39), (44, ti44), (46, ti46), (47, ti47), (48, ti48), (49, ti49), (50, ti50), (53, ti53), (54, ti54), (56, ti56), (57, ti57), (59, ti59), (60, ti60), (64, ti64), (65, ti65), (97, ti97), (98, ti98), (99, ti99), (100, ti100), (101, ti101), (107, ti107), (112, ti112), (113, ti113), (115, ti115), (116, ti116), (117, ti117), (121, ti121), (122, ti122), (142, ti142), (143, ti143), (144, ti144), (173, ti173), (174, ti174)]
theorem tab : TabOK Try.prog tt := (.cons ty2 (.cons ty3 (.cons ty4 (.cons ty5 (.cons ty9 (.cons ty12 (.cons ty13 (.cons ty21 (.cons ty22 (.cons ty23 (.cons ty24 (.cons ty25 (.cons ty26 (.cons ty27 (.cons ty28 (.cons ty29 (.cons ty30 (.cons ty33 (.cons ty34 (.cons ty35 (.cons ty38 (.cons ty39 (.cons ty44 (.cons ty46 (.cons ty47 (.cons ty48 (.cons ty49 (.cons ty50 (.cons ty53 (.cons ty54 (.cons ty56 (.cons ty57 (.cons ty59 (.cons ty60 (.cons ty64 (.cons ty65 (.cons ty97 (.cons ty98 (.cons ty99 (.cons ty100 (.cons ty101 (.cons ty107 (.cons ty112 (.cons ty113 (.cons ty115 (.cons ty116 (.cons ty117 (.cons ty121 (.cons ty122 (.cons ty142 (.cons ty143 (.cons ty144 (.cons ty173 (.cons ty174 (TabOK.nil _)))))))))))))))))))))))))))))))))))))))))))))))))))))))
theorem cal2 : Callable Try.prog 2 := ⟨_, Try.func2, by decide +kernel, rfl⟩
theorem cal3 : Callable Try.prog 3 := ⟨_, Try.func3, by decide +kernel, rfl⟩
theorem cal4 : Callable Try.prog 4 := ⟨_, Try.func4, by decide +kernel, rfl⟩
theorem cal5 : Callable Try.prog 5 := ⟨_, Try.func5, by decide +kernel, rfl⟩
theorem cal6 : Callable Try.prog 6 := ⟨_, Try.func6, by decide +kernel, rfl⟩
theorem cal7 : Callable Try.prog 7 := ⟨_, Try.func7, by decide +kernel, rfl⟩
theorem cal8 : Callable Try.prog 8 := ⟨_, Try.func8, by decide +kernel, rfl⟩
theorem cal9 : Callable Try.prog 9 := ⟨_, Try.func9, by decide +kernel, rfl⟩
theorem cal10 : Callable Try.prog 10 := ⟨_, Try.func10, by decide +kernel, rfl⟩
theorem cal11 : Callable Try.prog 11 := ⟨_, Try.func11, by decide +kernel, rfl⟩
theorem cal12 : Callable Try.prog 12 := ⟨_, Try.func12, by decide +kernel, rfl⟩
theorem cal13 : Callable Try.prog 13 := ⟨_, Try.func13, by decide +kernel, rfl⟩
theorem cal14 : Callable Try.prog 14 := ⟨_, Try.func14, by decide +kernel, rfl⟩
theorem cal15 : Callable Try.prog 15 := ⟨_, Try.func15, by decide +kernel, rfl⟩
theorem cal16 : Callable Try.prog 16 := ⟨_, Try.func16, by decide +kernel, rfl⟩
theorem cal17 : Callable Try.prog 17 := ⟨_, Try.func17, by decide +kernel, rfl⟩
theorem cal18 : Callable Try.prog 18 := ⟨_, Try.func18, by decide +kernel, rfl⟩
theorem cal19 : Callable Try.prog 19 := ⟨_, Try.func19, by decide +kernel, rfl⟩
theorem cal20 : Callable Try.prog 20 := ⟨_, Try.func20, by decide +kernel, rfl⟩
theorem cal21 : Callable Try.prog 21 := ⟨_, Try.func21, by decide +kernel, rfl⟩
theorem cal22 : Callable Try.prog 22 := ⟨_, Try.func22, by decide +kernel, rfl⟩
theorem cal23 : Callable Try.prog 23 := ⟨_, Try.func23, by decide +kernel, rfl⟩
theorem cal24 : Callable Try.prog 24 := ⟨_, Try.func24, by decide +kernel, rfl⟩
theorem cal25 : Callable Try.prog 25 := ⟨_, Try.func25, by decide +kernel, rfl⟩
theorem cal26 : Callable Try.prog 26 := ⟨_, Try.func26, by decide +kernel, rfl⟩
theorem cal27 : Callable Try.prog 27 := ⟨_, Try.func27, by decide +kernel, rfl⟩
theorem cal28 : Callable Try.prog 28 := ⟨_, Try.func28, by decide +kernel, rfl⟩
theorem cal29 : Callable Try.prog 29 := ⟨_, Try.func29, by decide +kernel, rfl⟩
theorem cal30 : Callable Try.prog 30 := ⟨_, Try.func30, by decide +kernel, rfl⟩
theorem cal31 : Callable Try.prog 31 := ⟨_, Try.func31, by decide +kernel, rfl⟩
theorem cal32 : Callable Try.prog 32 := ⟨_, Try.func32, by decide +kernel, rfl⟩
theorem cal33 : Callable Try.prog 33 := ⟨_, Try.func33, by decide +kernel, rfl⟩
theorem cal34 : Callable Try.prog 34 := ⟨_, Try.func34, by decide +kernel, rfl⟩
theorem cal35 : Callable Try.prog 35 := ⟨_, Try.func35, by decide +kernel, rfl⟩
theorem cal36 : Callable Try.prog 36 := ⟨_, Try.func36, by decide +kernel, rfl⟩
theorem cal37 : Callable Try.prog 37 := ⟨_, Try.func37, by decide +kernel, rfl⟩
theorem cal38 : Callable Try.prog 38 := ⟨_, Try.func38, by decide +kernel, rfl⟩
theorem cal39 : Callable Try.prog 39 := ⟨_, Try.func39, by decide +kernel, rfl⟩
theorem cal40 : Callable Try.prog 40 := ⟨_, Try.func40, by decide +kernel, rfl⟩
theorem cal41 : Callable Try.prog 41 := ⟨_, Try.func41, by decide +kernel, rfl⟩
theorem cal42 : Callable Try.prog 42 := ⟨_, Try.func42, by decide +kernel, rfl⟩
theorem cal43 : Callable Try.prog 43 := ⟨_, Try.func43, by decide +kernel, rfl⟩
theorem cal44 : Callable Try.prog 44 := ⟨_, Try.func44, by decide +kernel, rfl⟩
theorem cal45 : Callable Try.prog 45 := ⟨_, Try.func45, by decide +kernel, rfl⟩
theorem cal46 : Callable Try.prog 46 := ⟨_, Try.func46, by decide +kernel, rfl⟩
theorem cal47 : Callable Try.prog 47 := ⟨_, Try.func47, by decide +kernel, rfl⟩
theorem cal48 : Callable Try.prog 48 := ⟨_, Try.func48, by decide +kernel, rfl⟩
theorem cal49 : Callable Try.prog 49 := ⟨_, Try.func49, by decide +kernel, rfl⟩
theorem cal50 : Callable Try.prog 50 := ⟨_, Try.func50, by decide +kernel, rfl⟩
theorem cal51 : Callable Try.prog 51 := ⟨_, Try.func51, by decide +kernel, rfl⟩
theorem cal52 : Callable Try.prog 52 := ⟨_, Try.func52, by decide +kernel, rfl⟩
theorem cal53 : Callable Try.prog 53 := ⟨_, Try.func53, by decide +kernel, rfl⟩
theorem cal54 : Callable Try.prog 54 := ⟨_, Try.func54, by decide +kernel, rfl⟩
theorem cal55 : Callable Try.prog 55 := ⟨_, Try.func55, by decide +kernel, rfl⟩
theorem cal56 : Callable Try.prog 56 := ⟨_, Try.func56, by decide +kernel, rfl⟩
theorem cal57 : Callable Try.prog 57 := ⟨_, Try.func57, by decide +kernel, rfl⟩
theorem cal58 : Callable Try.prog 58 := ⟨_, Try.func58, by decide +kernel, rfl⟩
theorem cal59 : Callable Try.prog 59 := ⟨_, Try.func59, by decide +kernel, rfl⟩
theorem cal60 : Callable Try.prog 60 := ⟨_, Try.func60, by decide +kernel, rfl⟩
theorem cal61 : Callable Try.prog 61 := ⟨_, Try.func61, by decide +kernel, rfl⟩
theorem cal62 : Callable Try.prog 62 := ⟨_, Try.func62, by decide +kernel, rfl⟩
theorem cal63 : Callable Try.prog 63 := ⟨_, Try.func63, by decide +kernel, rfl⟩
theorem cal64 : Callable Try.prog 64 := ⟨_, Try.func64, by decide +kernel, rfl⟩
theorem cal65 : Callable Try.prog 65 := ⟨_, Try.func65, by decide +kernel, rfl⟩
theorem cal66 : Callable Try.prog 66 := ⟨_, Try.func66, by decide +kernel, rfl⟩
theorem cal67 : Callable Try.prog 67 := ⟨_, Try.func67, by decide +kernel, rfl⟩
theorem cal68 : Callable Try.prog 68 := ⟨_, Try.func68, by decide +kernel, rfl⟩
theorem cal69 : Callable Try.prog 69 := ⟨_, Try.func69, by decide +kernel, rfl⟩
theorem cal70 : Callable Try.prog 70 := ⟨_, Try.func70, by decide +kernel, rfl⟩
theorem cal71 : Callable Try.prog 71 := ⟨_, Try.func71, by decide +kernel, rfl⟩
theorem cal72 : Callable Try.prog 72 := ⟨_, Try.func72, by decide +kernel, rfl⟩
theorem cal73 : Callable Try.prog 73 := ⟨_, Try.func73, by decide +kernel, rfl⟩
theorem cal74 : Callable Try.prog 74 := ⟨_, Try.func74, by decide +kernel, rfl⟩
theorem cal75 : Callable Try.prog 75 := ⟨_, Try.func75, by decide +kernel, rfl⟩
theorem cal76 : Callable Try.prog 76 := ⟨_, Try.func76, by decide +kernel, rfl⟩
theorem cal77 : Callable Try.prog 77 := ⟨_, Try.func77, by decide +kernel, rfl⟩
theorem cal78 : Callable Try.prog 78 := ⟨_, Try.func78, by decide +kernel, rfl⟩
theorem cal79 : Callable Try.prog 79 := ⟨_, Try.func79, by decide +kernel, rfl⟩
theorem cal80 : Callable Try.prog 80 := ⟨_, Try.func80, by decide +kernel, rfl⟩
theorem cal81 : Callable Try.prog 81 := ⟨_, Try.func81, by decide +kernel, rfl⟩
theorem cal82 : Callable Try.prog 82 := ⟨_, Try.func82, by decide +kernel, rfl⟩
theorem cal83 : Callable Try.prog 83 := ⟨_, Try.func83, by decide +kernel, rfl⟩
theorem cal84 : Callable Try.prog 84 := ⟨_, Try.func84, by decide +kernel, rfl⟩
theorem cal85 : Callable Try.prog 85 := ⟨_, Try.func85, by decide +kernel, rfl⟩
theorem cal86 : Callable Try.prog 86 := ⟨_, Try.func86, by decide +kernel, rfl⟩
theorem cal87 : Callable Try.prog 87 := ⟨_, Try.func87, by decide +kernel, rfl⟩
theorem cal88 : Callable Try.prog 88 := ⟨_, Try.func88, by decide +kernel, rfl⟩
theorem cal89 : Callable Try.prog 89 := ⟨_, Try.func89, by decide +kernel, rfl⟩
theorem cal90 : Callable Try.prog 90 := ⟨_, Try.func90, by decide +kernel, rfl⟩
theorem cal91 : Callable Try.prog 91 := ⟨_, Try.func91, by decide +kernel, rfl⟩
theorem cal92 : Callable Try.prog 92 := ⟨_, Try.func92, by decide +kernel, rfl⟩
theorem cal93 : Callable Try.prog 93 := ⟨_, Try.func93, by decide +kernel, rfl⟩
theorem cal94 : Callable Try.prog 94 := ⟨_, Try.func94, by decide +kernel, rfl⟩
theorem cal95 : Callable Try.prog 95 := ⟨_, Try.func95, by decide +kernel, rfl⟩
theorem cal96 : Callable Try.prog 96 := ⟨_, Try.func96, by decide +kernel, rfl⟩
theorem cal97 : Callable Try.prog 97 := ⟨_, Try.func97, by decide +kernel, rfl⟩
theorem cal98 : Callable Try.prog 98 := ⟨_, Try.func98, by decide +kernel, rfl⟩
theorem cal99 : Callable Try.prog 99 := ⟨_, Try.func99, by decide +kernel, rfl⟩
theorem cal100 : Callable Try.prog 100 := ⟨_, Try.func100, by decide +kernel, rfl⟩
theorem cal101 : Callable Try.prog 101 := ⟨_, Try.func101, by decide +kernel, rfl⟩
theorem cal102 : Callable Try.prog 102 := ⟨_, Try.func102, by decide +kernel, rfl⟩
theorem cal103 : Callable Try.prog 103 := ⟨_, Try.func103, by decide +kernel, rfl⟩
theorem cal104 : Callable Try.prog 104 := ⟨_, Try.func104, by decide +kernel, rfl⟩
theorem cal105 : Callable Try.prog 105 := ⟨_, Try.func105, by decide +kernel, rfl⟩
theorem cal106 : Callable Try.prog 106 := ⟨_, Try.func106, by decide +kernel, rfl⟩
theorem cal107 : Callable Try.prog 107 := ⟨_, Try.func107, by decide +kernel, rfl⟩
theorem cal108 : Callable Try.prog 108 := ⟨_, Try.func108, by decide +kernel, rfl⟩
theorem cal110 : Callable Try.prog 110 := ⟨_, Try.func110, by decide +kernel, rfl⟩
theorem cal111 : Callable Try.prog 111 := ⟨_, Try.func111, by decide +kernel, rfl⟩
theorem cal112 : Callable Try.prog 112 := ⟨_, Try.func112, by decide +kernel, rfl⟩
theorem cal114 : Callable Try.prog 114 := ⟨_, Try.func114, by decide +kernel, rfl⟩
theorem cal115 : Callable Try.prog 115 := ⟨_, Try.func115, by decide +kernel, rfl⟩
theorem cal116 : Callable Try.prog 116 := ⟨_, Try.func116, by decide +kernel, rfl⟩
theorem cal117 : Callable Try.prog 117 := ⟨_, Try.func117, by decide +kernel, rfl⟩
theorem cal118 : Callable Try.prog 118 := ⟨_, Try.func118, by decide +kernel, rfl⟩
theorem mixed : Try.prog.follows .mixedOrders = true := by kernel_rfl
end Go.Proofs.Ytbjmafbbjhoddaa.Pv
