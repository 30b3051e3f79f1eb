/- The types of this seat's program: shapes, sizes, zero values. -/
import Derived.Test.YtenmnbjhebmpjaaProg
import Derived.Test.YtenmnbjhebmpjaaPvM1
import Derived.KernelRfl
namespace Go.Proofs.Ytenmnbjhebmpjaa.Pv
open Go
set_option maxRecDepth 100000
def ti2 : TI := ⟨.int .i64, 1, 8, [.int .i64 0]⟩
theorem ty2 : TyOK Try.prog 2 ti2 := .mk' (z := .int .i64 0) Try.underlying2 (by kernel_rfl) rfl rfl
def ti3 : TI := ⟨.int .i64, 1, 8, [.int .i64 0]⟩
theorem ty3 : TyOK Try.prog 3 ti3 := .mk' (z := .int .i64 0) Try.underlying3 (by kernel_rfl) rfl rfl
def ti4 : TI := ⟨.bool, 1, 1, [.bool false]⟩
theorem ty4 : TyOK Try.prog 4 ti4 := .mk' (z := .bool false) Try.underlying4 (by kernel_rfl) rfl rfl
def ti5 : TI := ⟨.int .u8, 1, 1, [.int .u8 0]⟩
theorem ty5 : TyOK Try.prog 5 ti5 := .mk' (z := .int .u8 0) Try.underlying5 (by kernel_rfl) rfl rfl
def ti9 : TI := ⟨.string, 1, 16, [.str ByteArray.empty]⟩
theorem ty9 : TyOK Try.prog 9 ti9 := .mk' (z := .string ByteArray.empty) Try.underlying9 (by kernel_rfl) rfl rfl
def ti12 : TI := ⟨.int .u64, 1, 8, [.int .u64 0]⟩
theorem ty12 : TyOK Try.prog 12 ti12 := .mk' (z := .int .u64 0) Try.underlying12 (by kernel_rfl) rfl rfl
def ti13 : TI := ⟨.struct #[⟨"msg", 9, 0, false, "", "runtime", 0⟩, ⟨"addr", 12, 1, false, "", "runtime", 16⟩], 2, 24, [.str ByteArray.empty, .int .u64 0]⟩
theorem ty13 : TyOK Try.prog 13 ti13 := .mk' (z := .agg #[.string ByteArray.empty, .int .u64 0]) Try.underlying13 (by kernel_rfl) rfl rfl
def ti21 : TI := ⟨.int .i32, 1, 4, [.int .i32 0]⟩
theorem ty21 : TyOK Try.prog 21 ti21 := .mk' (z := .int .i32 0) Try.underlying21 (by kernel_rfl) rfl rfl
def ti22 : TI := ⟨.slice 39, 1, 24, [.sl .sh 9 []]⟩
theorem ty22 : TyOK Try.prog 22 ti22 := .mk' (z := .slice none 0 0) Try.underlying22 (by kernel_rfl) rfl rfl
def ti23 : TI := ⟨.slice 134, 1, 24, [.sl .sh 5 []]⟩
theorem ty23 : TyOK Try.prog 23 ti23 := .mk' (z := .slice none 0 0) Try.underlying23 (by kernel_rfl) rfl rfl
def ti24 : TI := ⟨.slice 92, 1, 24, [.sl .sh 8 []]⟩
theorem ty24 : TyOK Try.prog 24 ti24 := .mk' (z := .slice none 0 0) Try.underlying24 (by kernel_rfl) rfl rfl
def ti25 : TI := ⟨.struct #[⟨"Vols", 22, 0, false, "", "", 0⟩, ⟨"Names", 23, 1, false, "", "", 24⟩, ⟨"Last", 24, 2, false, "", "", 48⟩], 3, 72, [.sl .sh 9 [], .sl .sh 5 [], .sl .sh 8 []]⟩
theorem ty25 : TyOK Try.prog 25 ti25 := .mk' (z := .agg #[.slice none 0 0, .slice none 0 0, .slice none 0 0]) Try.underlying25 (by kernel_rfl) rfl rfl
def ti26 : TI := ⟨.struct #[⟨"Vols", 22, 0, false, "", "", 0⟩, ⟨"Names", 23, 1, false, "", "", 24⟩, ⟨"Last", 24, 2, false, "", "", 48⟩], 3, 72, [.sl .sh 9 [], .sl .sh 5 [], .sl .sh 8 []]⟩
theorem ty26 : TyOK Try.prog 26 ti26 := .mk' (z := .agg #[.slice none 0 0, .slice none 0 0, .slice none 0 0]) Try.underlying26 (by kernel_rfl) rfl rfl
def ti27 : TI := ⟨.slice 44, 1, 24, [.sl .sh 4 []]⟩
theorem ty27 : TyOK Try.prog 27 ti27 := .mk' (z := .slice none 0 0) Try.underlying27 (by kernel_rfl) rfl rfl
def ti30 : TI := ⟨.slice 41, 1, 24, [.sl .sh 2 []]⟩
theorem ty30 : TyOK Try.prog 30 ti30 := .mk' (z := .slice none 0 0) Try.underlying30 (by kernel_rfl) rfl rfl
def ti31 : TI := ⟨.struct #[⟨"Vol", 3, 0, false, "", "", 0⟩, ⟨"Idx", 3, 1, false, "", "", 8⟩], 2, 16, [.int .i64 0, .int .i64 0]⟩
theorem ty31 : TyOK Try.prog 31 ti31 := .mk' (z := .agg #[.int .i64 0, .int .i64 0]) Try.underlying31 (by kernel_rfl) rfl rfl
def ti32 : TI := ⟨.struct #[⟨"Vol", 3, 0, false, "", "", 0⟩, ⟨"Idx", 3, 1, false, "", "", 8⟩], 2, 16, [.int .i64 0, .int .i64 0]⟩
theorem ty32 : TyOK Try.prog 32 ti32 := .mk' (z := .agg #[.int .i64 0, .int .i64 0]) Try.underlying32 (by kernel_rfl) rfl rfl
def ti33 : TI := ⟨.struct #[⟨"Kind", 3, 0, false, "", "", 0⟩, ⟨"Vol", 3, 1, false, "", "", 8⟩, ⟨"Idx", 3, 2, false, "", "", 16⟩, ⟨"Mate", 3, 3, false, "", "", 24⟩, ⟨"To", 30, 4, false, "", "", 32⟩, ⟨"Key", 32, 5, false, "", "", 56⟩], 7, 72, [.int .i64 0, .int .i64 0, .int .i64 0, .int .i64 0, .sl .sh 2 [], .int .i64 0, .int .i64 0]⟩
theorem ty33 : TyOK Try.prog 33 ti33 := .mk' (z := .agg #[.int .i64 0, .int .i64 0, .int .i64 0, .int .i64 0, .slice none 0 0, .int .i64 0, .int .i64 0]) Try.underlying33 (by kernel_rfl) rfl rfl
def ti34 : TI := ⟨.struct #[⟨"Kind", 3, 0, false, "", "", 0⟩, ⟨"Vol", 3, 1, false, "", "", 8⟩, ⟨"Idx", 3, 2, false, "", "", 16⟩, ⟨"Mate", 3, 3, false, "", "", 24⟩, ⟨"To", 30, 4, false, "", "", 32⟩, ⟨"Key", 32, 5, false, "", "", 56⟩], 7, 72, [.int .i64 0, .int .i64 0, .int .i64 0, .int .i64 0, .sl .sh 2 [], .int .i64 0, .int .i64 0]⟩
theorem ty34 : TyOK Try.prog 34 ti34 := .mk' (z := .agg #[.int .i64 0, .int .i64 0, .int .i64 0, .int .i64 0, .slice none 0 0, .int .i64 0, .int .i64 0]) Try.underlying34 (by kernel_rfl) rfl rfl
def ti37 : TI := ⟨.slice 60, 1, 24, [.sl .sh 2 []]⟩
theorem ty37 : TyOK Try.prog 37 ti37 := .mk' (z := .slice none 0 0) Try.underlying37 (by kernel_rfl) rfl rfl
def ti38 : TI := ⟨.struct #[⟨"Id", 3, 0, false, "", "", 0⟩, ⟨"Home", 3, 1, false, "", "", 8⟩, ⟨"Mate", 3, 2, false, "", "", 16⟩, ⟨"Used", 3, 3, false, "", "", 24⟩, ⟨"Phase", 3, 4, false, "", "", 32⟩, ⟨"Parts", 37, 5, false, "", "", 40⟩, ⟨"Places", 30, 6, false, "", "", 64⟩, ⟨"Pair", 3, 7, false, "", "", 88⟩, ⟨"Sum", 3, 8, false, "", "", 96⟩], 9, 104, [.int .i64 0, .int .i64 0, .int .i64 0, .int .i64 0, .int .i64 0, .sl .sh 2 [], .sl .sh 2 [], .int .i64 0, .int .i64 0]⟩
theorem ty38 : TyOK Try.prog 38 ti38 := .mk' (z := .agg #[.int .i64 0, .int .i64 0, .int .i64 0, .int .i64 0, .int .i64 0, .slice none 0 0, .slice none 0 0, .int .i64 0, .int .i64 0]) Try.underlying38 (by kernel_rfl) rfl rfl
def ti39 : TI := ⟨.struct #[⟨"Id", 3, 0, false, "", "", 0⟩, ⟨"Home", 3, 1, false, "", "", 8⟩, ⟨"Mate", 3, 2, false, "", "", 16⟩, ⟨"Used", 3, 3, false, "", "", 24⟩, ⟨"Phase", 3, 4, false, "", "", 32⟩, ⟨"Parts", 37, 5, false, "", "", 40⟩, ⟨"Places", 30, 6, false, "", "", 64⟩, ⟨"Pair", 3, 7, false, "", "", 88⟩, ⟨"Sum", 3, 8, false, "", "", 96⟩], 9, 104, [.int .i64 0, .int .i64 0, .int .i64 0, .int .i64 0, .int .i64 0, .sl .sh 2 [], .sl .sh 2 [], .int .i64 0, .int .i64 0]⟩
theorem ty39 : TyOK Try.prog 39 ti39 := .mk' (z := .agg #[.int .i64 0, .int .i64 0, .int .i64 0, .int .i64 0, .int .i64 0, .slice none 0 0, .slice none 0 0, .int .i64 0, .int .i64 0]) Try.underlying39 (by kernel_rfl) rfl rfl
def ti40 : TI := ⟨.struct #[⟨"Region", 3, 0, false, "", "", 0⟩, ⟨"Node", 3, 1, false, "", "", 8⟩], 2, 16, [.int .i64 0, .int .i64 0]⟩
theorem ty40 : TyOK Try.prog 40 ti40 := .mk' (z := .agg #[.int .i64 0, .int .i64 0]) Try.underlying40 (by kernel_rfl) rfl rfl
def ti41 : TI := ⟨.struct #[⟨"Region", 3, 0, false, "", "", 0⟩, ⟨"Node", 3, 1, false, "", "", 8⟩], 2, 16, [.int .i64 0, .int .i64 0]⟩
theorem ty41 : TyOK Try.prog 41 ti41 := .mk' (z := .agg #[.int .i64 0, .int .i64 0]) Try.underlying41 (by kernel_rfl) rfl rfl
def ti42 : TI := ⟨.slice 32, 1, 24, [.sl .sh 2 []]⟩
theorem ty42 : TyOK Try.prog 42 ti42 := .mk' (z := .slice none 0 0) Try.underlying42 (by kernel_rfl) rfl rfl
def ti43 : TI := ⟨.struct #[⟨"Place", 41, 0, false, "", "", 0⟩, ⟨"Live", 4, 2, false, "", "", 16⟩, ⟨"Keys", 42, 3, false, "", "", 24⟩], 4, 48, [.int .i64 0, .int .i64 0, .bool false, .sl .sh 2 []]⟩
theorem ty43 : TyOK Try.prog 43 ti43 := .mk' (z := .agg #[.int .i64 0, .int .i64 0, .bool false, .slice none 0 0]) Try.underlying43 (by kernel_rfl) rfl rfl
def ti44 : TI := ⟨.struct #[⟨"Place", 41, 0, false, "", "", 0⟩, ⟨"Live", 4, 2, false, "", "", 16⟩, ⟨"Keys", 42, 3, false, "", "", 24⟩], 4, 48, [.int .i64 0, .int .i64 0, .bool false, .sl .sh 2 []]⟩
theorem ty44 : TyOK Try.prog 44 ti44 := .mk' (z := .agg #[.int .i64 0, .int .i64 0, .bool false, .slice none 0 0]) Try.underlying44 (by kernel_rfl) rfl rfl
def ti46 : TI := ⟨.slice 54, 1, 24, [.sl .sh 12 []]⟩
theorem ty46 : TyOK Try.prog 46 ti46 := .mk' (z := .slice none 0 0) Try.underlying46 (by kernel_rfl) rfl rfl
def ti47 : TI := ⟨.int .i64, 1, 8, [.int .i64 0]⟩
theorem ty47 : TyOK Try.prog 47 ti47 := .mk' (z := .int .i64 0) Try.underlying47 (by kernel_rfl) rfl rfl
def ti48 : TI := ⟨.int .u32, 1, 4, [.int .u32 0]⟩
theorem ty48 : TyOK Try.prog 48 ti48 := .mk' (z := .int .u32 0) Try.underlying48 (by kernel_rfl) rfl rfl
def ti49 : TI := ⟨.struct #[⟨"Err", 47, 0, false, "", "", 0⟩, ⟨"Vol", 3, 1, false, "", "", 8⟩, ⟨"Off", 3, 2, false, "", "", 16⟩, ⟨"N", 3, 3, false, "", "", 24⟩, ⟨"Sum", 48, 4, false, "", "", 32⟩, ⟨"Found", 4, 5, false, "", "", 36⟩], 6, 40, [.int .i64 0, .int .i64 0, .int .i64 0, .int .i64 0, .int .u32 0, .bool false]⟩
theorem ty49 : TyOK Try.prog 49 ti49 := .mk' (z := .agg #[.int .i64 0, .int .i64 0, .int .i64 0, .int .i64 0, .int .u32 0, .bool false]) Try.underlying49 (by kernel_rfl) rfl rfl
def ti50 : TI := ⟨.struct #[⟨"Err", 47, 0, false, "", "", 0⟩, ⟨"Vol", 3, 1, false, "", "", 8⟩, ⟨"Off", 3, 2, false, "", "", 16⟩, ⟨"N", 3, 3, false, "", "", 24⟩, ⟨"Sum", 48, 4, false, "", "", 32⟩, ⟨"Found", 4, 5, false, "", "", 36⟩], 6, 40, [.int .i64 0, .int .i64 0, .int .i64 0, .int .i64 0, .int .u32 0, .bool false]⟩
theorem ty50 : TyOK Try.prog 50 ti50 := .mk' (z := .agg #[.int .i64 0, .int .i64 0, .int .i64 0, .int .i64 0, .int .u32 0, .bool false]) Try.underlying50 (by kernel_rfl) rfl rfl
def ti53 : TI := ⟨.struct #[⟨"Kind", 3, 0, false, "", "", 0⟩, ⟨"Client", 3, 1, false, "", "", 8⟩, ⟨"Seq", 3, 2, false, "", "", 16⟩, ⟨"Name", 9, 3, false, "", "", 24⟩, ⟨"Vol", 3, 4, false, "", "", 40⟩, ⟨"Off", 3, 5, false, "", "", 48⟩, ⟨"N", 3, 6, false, "", "", 56⟩, ⟨"Sum", 48, 7, false, "", "", 64⟩, ⟨"Region", 3, 8, false, "", "", 72⟩, ⟨"Mate", 3, 9, false, "", "", 80⟩, ⟨"Idx", 3, 10, false, "", "", 88⟩, ⟨"Places", 30, 11, false, "", "", 96⟩], 12, 120, [.int .i64 0, .int .i64 0, .int .i64 0, .str ByteArray.empty, .int .i64 0, .int .i64 0, .int .i64 0, .int .u32 0, .int .i64 0, .int .i64 0, .int .i64 0, .sl .sh 2 []]⟩
theorem ty53 : TyOK Try.prog 53 ti53 := .mk' (z := .agg #[.int .i64 0, .int .i64 0, .int .i64 0, .string ByteArray.empty, .int .i64 0, .int .i64 0, .int .i64 0, .int .u32 0, .int .i64 0, .int .i64 0, .int .i64 0, .slice none 0 0]) Try.underlying53 (by kernel_rfl) rfl rfl
def ti54 : TI := ⟨.struct #[⟨"Kind", 3, 0, false, "", "", 0⟩, ⟨"Client", 3, 1, false, "", "", 8⟩, ⟨"Seq", 3, 2, false, "", "", 16⟩, ⟨"Name", 9, 3, false, "", "", 24⟩, ⟨"Vol", 3, 4, false, "", "", 40⟩, ⟨"Off", 3, 5, false, "", "", 48⟩, ⟨"N", 3, 6, false, "", "", 56⟩, ⟨"Sum", 48, 7, false, "", "", 64⟩, ⟨"Region", 3, 8, false, "", "", 72⟩, ⟨"Mate", 3, 9, false, "", "", 80⟩, ⟨"Idx", 3, 10, false, "", "", 88⟩, ⟨"Places", 30, 11, false, "", "", 96⟩], 12, 120, [.int .i64 0, .int .i64 0, .int .i64 0, .str ByteArray.empty, .int .i64 0, .int .i64 0, .int .i64 0, .int .u32 0, .int .i64 0, .int .i64 0, .int .i64 0, .sl .sh 2 []]⟩
theorem ty54 : TyOK Try.prog 54 ti54 := .mk' (z := .agg #[.int .i64 0, .int .i64 0, .int .i64 0, .string ByteArray.empty, .int .i64 0, .int .i64 0, .int .i64 0, .int .u32 0, .int .i64 0, .int .i64 0, .int .i64 0, .slice none 0 0]) Try.underlying54 (by kernel_rfl) rfl rfl
def ti56 : TI := ⟨.slice 62, 1, 24, [.sl .sh 2 []]⟩
theorem ty56 : TyOK Try.prog 56 ti56 := .mk' (z := .slice none 0 0) Try.underlying56 (by kernel_rfl) rfl rfl
def ti59 : TI := ⟨.struct #[⟨"Off", 3, 0, false, "", "", 0⟩, ⟨"N", 3, 1, false, "", "", 8⟩], 2, 16, [.int .i64 0, .int .i64 0]⟩
theorem ty59 : TyOK Try.prog 59 ti59 := .mk' (z := .agg #[.int .i64 0, .int .i64 0]) Try.underlying59 (by kernel_rfl) rfl rfl
def ti60 : TI := ⟨.struct #[⟨"Off", 3, 0, false, "", "", 0⟩, ⟨"N", 3, 1, false, "", "", 8⟩], 2, 16, [.int .i64 0, .int .i64 0]⟩
theorem ty60 : TyOK Try.prog 60 ti60 := .mk' (z := .agg #[.int .i64 0, .int .i64 0]) Try.underlying60 (by kernel_rfl) rfl rfl
def ti61 : TI := ⟨.struct #[⟨"Off", 3, 0, false, "", "", 0⟩, ⟨"Bytes", 9, 1, false, "", "", 8⟩], 2, 24, [.int .i64 0, .str ByteArray.empty]⟩
theorem ty61 : TyOK Try.prog 61 ti61 := .mk' (z := .agg #[.int .i64 0, .string ByteArray.empty]) Try.underlying61 (by kernel_rfl) rfl rfl
def ti62 : TI := ⟨.struct #[⟨"Off", 3, 0, false, "", "", 0⟩, ⟨"Bytes", 9, 1, false, "", "", 8⟩], 2, 24, [.int .i64 0, .str ByteArray.empty]⟩
theorem ty62 : TyOK Try.prog 62 ti62 := .mk' (z := .agg #[.int .i64 0, .string ByteArray.empty]) Try.underlying62 (by kernel_rfl) rfl rfl
def ti66 : TI := ⟨.struct #[⟨"X", 26, 0, false, "", "", 0⟩, ⟨"V", 39, 3, false, "", "", 72⟩, ⟨"Have", 56, 12, false, "", "", 176⟩, ⟨"Inv", 27, 13, false, "", "", 200⟩, ⟨"P", 41, 14, false, "", "", 224⟩, ⟨"K", 32, 16, false, "", "", 240⟩, ⟨"Nodes", 3, 18, false, "", "", 256⟩], 19, 264, [.sl .sh 9 [], .sl .sh 5 [], .sl .sh 8 [], .int .i64 0, .int .i64 0, .int .i64 0, .int .i64 0, .int .i64 0, .sl .sh 2 [], .sl .sh 2 [], .int .i64 0, .int .i64 0, .sl .sh 2 [], .sl .sh 4 [], .int .i64 0, .int .i64 0, .int .i64 0, .int .i64 0, .int .i64 0]⟩
theorem ty66 : TyOK Try.prog 66 ti66 := .mk' (z := .agg #[.slice none 0 0, .slice none 0 0, .slice none 0 0, .int .i64 0, .int .i64 0, .int .i64 0, .int .i64 0, .int .i64 0, .slice none 0 0, .slice none 0 0, .int .i64 0, .int .i64 0, .slice none 0 0, .slice none 0 0, .int .i64 0, .int .i64 0, .int .i64 0, .int .i64 0, .int .i64 0]) Try.underlying66 (by kernel_rfl) rfl rfl
def ti67 : TI := ⟨.struct #[⟨"X", 26, 0, false, "", "", 0⟩, ⟨"V", 39, 3, false, "", "", 72⟩, ⟨"Have", 56, 12, false, "", "", 176⟩, ⟨"Inv", 27, 13, false, "", "", 200⟩, ⟨"P", 41, 14, false, "", "", 224⟩, ⟨"K", 32, 16, false, "", "", 240⟩, ⟨"Nodes", 3, 18, false, "", "", 256⟩], 19, 264, [.sl .sh 9 [], .sl .sh 5 [], .sl .sh 8 [], .int .i64 0, .int .i64 0, .int .i64 0, .int .i64 0, .int .i64 0, .sl .sh 2 [], .sl .sh 2 [], .int .i64 0, .int .i64 0, .sl .sh 2 [], .sl .sh 4 [], .int .i64 0, .int .i64 0, .int .i64 0, .int .i64 0, .int .i64 0]⟩
theorem ty67 : TyOK Try.prog 67 ti67 := .mk' (z := .agg #[.slice none 0 0, .slice none 0 0, .slice none 0 0, .int .i64 0, .int .i64 0, .int .i64 0, .int .i64 0, .int .i64 0, .slice none 0 0, .slice none 0 0, .int .i64 0, .int .i64 0, .slice none 0 0, .slice none 0 0, .int .i64 0, .int .i64 0, .int .i64 0, .int .i64 0, .int .i64 0]) Try.underlying67 (by kernel_rfl) rfl rfl
def ti71 : TI := ⟨.slice 4, 1, 24, [.sl .sh 1 []]⟩
theorem ty71 : TyOK Try.prog 71 ti71 := .mk' (z := .slice none 0 0) Try.underlying71 (by kernel_rfl) rfl rfl
def ti74 : TI := ⟨.slice 3, 1, 24, [.sl .sh 1 []]⟩
theorem ty74 : TyOK Try.prog 74 ti74 := .mk' (z := .slice none 0 0) Try.underlying74 (by kernel_rfl) rfl rfl
def ti91 : TI := ⟨.struct #[⟨"Client", 3, 0, false, "", "", 0⟩, ⟨"Seq", 3, 1, false, "", "", 8⟩, ⟨"Reply", 50, 2, false, "", "", 16⟩], 8, 56, [.int .i64 0, .int .i64 0, .int .i64 0, .int .i64 0, .int .i64 0, .int .i64 0, .int .u32 0, .bool false]⟩
theorem ty91 : TyOK Try.prog 91 ti91 := .mk' (z := .agg #[.int .i64 0, .int .i64 0, .int .i64 0, .int .i64 0, .int .i64 0, .int .i64 0, .int .u32 0, .bool false]) Try.underlying91 (by kernel_rfl) rfl rfl
def ti92 : TI := ⟨.struct #[⟨"Client", 3, 0, false, "", "", 0⟩, ⟨"Seq", 3, 1, false, "", "", 8⟩, ⟨"Reply", 50, 2, false, "", "", 16⟩], 8, 56, [.int .i64 0, .int .i64 0, .int .i64 0, .int .i64 0, .int .i64 0, .int .i64 0, .int .u32 0, .bool false]⟩
theorem ty92 : TyOK Try.prog 92 ti92 := .mk' (z := .agg #[.int .i64 0, .int .i64 0, .int .i64 0, .int .i64 0, .int .i64 0, .int .i64 0, .int .u32 0, .bool false]) Try.underlying92 (by kernel_rfl) rfl rfl
def ti119 : TI := ⟨.slice 5, 1, 24, [.sl .sh 1 []]⟩
theorem ty119 : TyOK Try.prog 119 ti119 := .mk' (z := .slice none 0 0) Try.underlying119 (by kernel_rfl) rfl rfl
def ti133 : TI := ⟨.struct #[⟨"Name", 9, 0, false, "", "", 0⟩, ⟨"Vol", 3, 1, false, "", "", 16⟩, ⟨"Off", 3, 2, false, "", "", 24⟩, ⟨"N", 3, 3, false, "", "", 32⟩, ⟨"Sum", 48, 4, false, "", "", 40⟩], 5, 48, [.str ByteArray.empty, .int .i64 0, .int .i64 0, .int .i64 0, .int .u32 0]⟩
theorem ty133 : TyOK Try.prog 133 ti133 := .mk' (z := .agg #[.string ByteArray.empty, .int .i64 0, .int .i64 0, .int .i64 0, .int .u32 0]) Try.underlying133 (by kernel_rfl) rfl rfl
def ti134 : TI := ⟨.struct #[⟨"Name", 9, 0, false, "", "", 0⟩, ⟨"Vol", 3, 1, false, "", "", 16⟩, ⟨"Off", 3, 2, false, "", "", 24⟩, ⟨"N", 3, 3, false, "", "", 32⟩, ⟨"Sum", 48, 4, false, "", "", 40⟩], 5, 48, [.str ByteArray.empty, .int .i64 0, .int .i64 0, .int .i64 0, .int .u32 0]⟩
theorem ty134 : TyOK Try.prog 134 ti134 := .mk' (z := .agg #[.string ByteArray.empty, .int .i64 0, .int .i64 0, .int .i64 0, .int .u32 0]) Try.underlying134 (by kernel_rfl) rfl rfl
def ti136 : TI := ⟨.int .u64, 1, 8, [.int .u64 0]⟩
theorem ty136 : TyOK Try.prog 136 ti136 := .mk' (z := .int .u64 0) Try.underlying136 (by kernel_rfl) rfl rfl
def ti145 : TI := ⟨.int .u64, 1, 8, [.int .u64 0]⟩
theorem ty145 : TyOK Try.prog 145 ti145 := .mk' (z := .int .u64 0) Try.underlying145 (by kernel_rfl) rfl rfl
def ti151 : TI := ⟨.array 0 16, 0, 0, []⟩
theorem ty151 : TyOK Try.prog 151 ti151 := .mk' (z := .agg #[]) Try.underlying151 (by kernel_rfl) rfl rfl
def ti152 : TI := ⟨.struct #[⟨"_", 151, 0, false, "", "runtime", 0⟩], 0, 0, []⟩
theorem ty152 : TyOK Try.prog 152 ti152 := .mk' (z := .agg #[]) Try.underlying152 (by kernel_rfl) rfl rfl
def ti158 : TI := ⟨.pointer 5, 1, 8, [.dead]⟩
theorem ty158 : TyOK Try.prog 158 ti158 := .mk' (z := .pointer none) Try.underlying158 (by kernel_rfl) rfl rfl
def tt : TT := [(2, ti2), (3, ti3), (4, ti4), (5, ti5), (9, ti9), (12, ti12), (13, ti13), (21, ti21), (22, ti22), (23, ti23), (24, ti24), (25, ti25), (26, ti26), (27, ti27), (30, ti30), (31, ti31), (32, ti32), (33, ti33), (34, ti34), (37, ti37), (38, ti38), (39, ti39), (40, ti40), (41, ti41), (42, ti42), (43, ti43), (44, ti44), (46, ti46), (47, ti47), (48, ti48), (49, ti49), (50, ti50), (53, ti53), (54, ti54), (56, ti56), (59, ti59), (60, ti60), (61, ti61), (62, ti62), (66, ti66), (67, ti67), (71, ti71), (74, ti74), (91, ti91), (92, ti92), (119, ti119), (133, ti133), (134, ti134), (136, ti136), (145, ti145), (151, ti151), (152, ti152), (158, ti158)]
theorem tab : TabOK Try.prog tt := (.cons ty2 (.cons ty3 (.cons ty4 (.cons ty5 (.cons ty9 (.cons ty12 (.cons ty13 (.cons ty21 (.cons ty22 (.cons ty23 (.cons ty24 (.cons ty25 (.cons ty26 (.cons ty27 (.cons ty30 (.cons ty31 (.cons ty32 (.cons ty33 (.cons ty34 (.cons ty37 (.cons ty38 (.cons ty39 (.cons ty40 (.cons ty41 (.cons ty42 (.cons ty43 (.cons ty44 (.cons ty46 (.cons ty47 (.cons ty48 (.cons ty49 (.cons ty50 (.cons ty53 (.cons ty54 (.cons ty56 (.cons ty59 (.cons ty60 (.cons ty61 (.cons ty62 (.cons ty66 (.cons ty67 (.cons ty71 (.cons ty74 (.cons ty91 (.cons ty92 (.cons ty119 (.cons ty133 (.cons ty134 (.cons ty136 (.cons ty145 (.cons ty151 (.cons ty152 (.cons ty158 (TabOK.nil _))))))))))))))))))))))))))))))))))))))))))))))))))))))
theorem cal2 : Callable Try.prog 2 := ⟨_, Try.func2, by decide +kernel, rfl⟩
theorem cal3 : Callable Try.prog 3 := ⟨_, Try.func3, by decide +kernel, rfl⟩
theorem cal4 : Callable Try.prog 4 := ⟨_, Try.func4, by decide +kernel, rfl⟩
theorem cal5 : Callable Try.prog 5 := ⟨_, Try.func5, by decide +kernel, rfl⟩
theorem cal6 : Callable Try.prog 6 := ⟨_, Try.func6, by decide +kernel, rfl⟩
theorem cal7 : Callable Try.prog 7 := ⟨_, Try.func7, by decide +kernel, rfl⟩
theorem cal8 : Callable Try.prog 8 := ⟨_, Try.func8, by decide +kernel, rfl⟩
theorem cal9 : Callable Try.prog 9 := ⟨_, Try.func9, by decide +kernel, rfl⟩
theorem cal10 : Callable Try.prog 10 := ⟨_, Try.func10, by decide +kernel, rfl⟩
theorem cal11 : Callable Try.prog 11 := ⟨_, Try.func11, by decide +kernel, rfl⟩
theorem cal12 : Callable Try.prog 12 := ⟨_, Try.func12, by decide +kernel, rfl⟩
theorem cal13 : Callable Try.prog 13 := ⟨_, Try.func13, by decide +kernel, rfl⟩
theorem cal14 : Callable Try.prog 14 := ⟨_, Try.func14, by decide +kernel, rfl⟩
theorem cal15 : Callable Try.prog 15 := ⟨_, Try.func15, by decide +kernel, rfl⟩
theorem cal16 : Callable Try.prog 16 := ⟨_, Try.func16, by decide +kernel, rfl⟩
theorem cal17 : Callable Try.prog 17 := ⟨_, Try.func17, by decide +kernel, rfl⟩
theorem cal18 : Callable Try.prog 18 := ⟨_, Try.func18, by decide +kernel, rfl⟩
theorem cal19 : Callable Try.prog 19 := ⟨_, Try.func19, by decide +kernel, rfl⟩
theorem cal20 : Callable Try.prog 20 := ⟨_, Try.func20, by decide +kernel, rfl⟩
theorem cal21 : Callable Try.prog 21 := ⟨_, Try.func21, by decide +kernel, rfl⟩
theorem cal22 : Callable Try.prog 22 := ⟨_, Try.func22, by decide +kernel, rfl⟩
theorem cal23 : Callable Try.prog 23 := ⟨_, Try.func23, by decide +kernel, rfl⟩
theorem cal24 : Callable Try.prog 24 := ⟨_, Try.func24, by decide +kernel, rfl⟩
theorem cal25 : Callable Try.prog 25 := ⟨_, Try.func25, by decide +kernel, rfl⟩
theorem cal26 : Callable Try.prog 26 := ⟨_, Try.func26, by decide +kernel, rfl⟩
theorem cal27 : Callable Try.prog 27 := ⟨_, Try.func27, by decide +kernel, rfl⟩
theorem cal28 : Callable Try.prog 28 := ⟨_, Try.func28, by decide +kernel, rfl⟩
theorem cal29 : Callable Try.prog 29 := ⟨_, Try.func29, by decide +kernel, rfl⟩
theorem cal30 : Callable Try.prog 30 := ⟨_, Try.func30, by decide +kernel, rfl⟩
theorem cal31 : Callable Try.prog 31 := ⟨_, Try.func31, by decide +kernel, rfl⟩
theorem cal32 : Callable Try.prog 32 := ⟨_, Try.func32, by decide +kernel, rfl⟩
theorem cal33 : Callable Try.prog 33 := ⟨_, Try.func33, by decide +kernel, rfl⟩
theorem cal34 : Callable Try.prog 34 := ⟨_, Try.func34, by decide +kernel, rfl⟩
theorem cal35 : Callable Try.prog 35 := ⟨_, Try.func35, by decide +kernel, rfl⟩
theorem cal36 : Callable Try.prog 36 := ⟨_, Try.func36, by decide +kernel, rfl⟩
theorem cal37 : Callable Try.prog 37 := ⟨_, Try.func37, by decide +kernel, rfl⟩
theorem cal38 : Callable Try.prog 38 := ⟨_, Try.func38, by decide +kernel, rfl⟩
theorem cal39 : Callable Try.prog 39 := ⟨_, Try.func39, by decide +kernel, rfl⟩
theorem cal40 : Callable Try.prog 40 := ⟨_, Try.func40, by decide +kernel, rfl⟩
theorem cal41 : Callable Try.prog 41 := ⟨_, Try.func41, by decide +kernel, rfl⟩
theorem cal42 : Callable Try.prog 42 := ⟨_, Try.func42, by decide +kernel, rfl⟩
theorem cal43 : Callable Try.prog 43 := ⟨_, Try.func43, by decide +kernel, rfl⟩
theorem cal44 : Callable Try.prog 44 := ⟨_, Try.func44, by decide +kernel, rfl⟩
theorem cal45 : Callable Try.prog 45 := ⟨_, Try.func45, by decide +kernel, rfl⟩
theorem cal46 : Callable Try.prog 46 := ⟨_, Try.func46, by decide +kernel, rfl⟩
theorem cal47 : Callable Try.prog 47 := ⟨_, Try.func47, by decide +kernel, rfl⟩
theorem cal48 : Callable Try.prog 48 := ⟨_, Try.func48, by decide +kernel, rfl⟩
theorem cal49 : Callable Try.prog 49 := ⟨_, Try.func49, by decide +kernel, rfl⟩
theorem cal50 : Callable Try.prog 50 := ⟨_, Try.func50, by decide +kernel, rfl⟩
theorem cal51 : Callable Try.prog 51 := ⟨_, Try.func51, by decide +kernel, rfl⟩
theorem cal52 : Callable Try.prog 52 := ⟨_, Try.func52, by decide +kernel, rfl⟩
theorem cal53 : Callable Try.prog 53 := ⟨_, Try.func53, by decide +kernel, rfl⟩
theorem cal54 : Callable Try.prog 54 := ⟨_, Try.func54, by decide +kernel, rfl⟩
theorem cal55 : Callable Try.prog 55 := ⟨_, Try.func55, by decide +kernel, rfl⟩
theorem cal56 : Callable Try.prog 56 := ⟨_, Try.func56, by decide +kernel, rfl⟩
theorem cal57 : Callable Try.prog 57 := ⟨_, Try.func57, by decide +kernel, rfl⟩
theorem cal58 : Callable Try.prog 58 := ⟨_, Try.func58, by decide +kernel, rfl⟩
theorem cal59 : Callable Try.prog 59 := ⟨_, Try.func59, by decide +kernel, rfl⟩
theorem cal60 : Callable Try.prog 60 := ⟨_, Try.func60, by decide +kernel, rfl⟩
theorem cal61 : Callable Try.prog 61 := ⟨_, Try.func61, by decide +kernel, rfl⟩
theorem cal62 : Callable Try.prog 62 := ⟨_, Try.func62, by decide +kernel, rfl⟩
theorem cal63 : Callable Try.prog 63 := ⟨_, Try.func63, by decide +kernel, rfl⟩
theorem cal64 : Callable Try.prog 64 := ⟨_, Try.func64, by decide +kernel, rfl⟩
theorem cal65 : Callable Try.prog 65 := ⟨_, Try.func65, by decide +kernel, rfl⟩
theorem cal66 : Callable Try.prog 66 := ⟨_, Try.func66, by decide +kernel, rfl⟩
theorem cal67 : Callable Try.prog 67 := ⟨_, Try.func67, by decide +kernel, rfl⟩
theorem cal68 : Callable Try.prog 68 := ⟨_, Try.func68, by decide +kernel, rfl⟩
theorem cal69 : Callable Try.prog 69 := ⟨_, Try.func69, by decide +kernel, rfl⟩
theorem cal70 : Callable Try.prog 70 := ⟨_, Try.func70, by decide +kernel, rfl⟩
theorem cal71 : Callable Try.prog 71 := ⟨_, Try.func71, by decide +kernel, rfl⟩
theorem cal72 : Callable Try.prog 72 := ⟨_, Try.func72, by decide +kernel, rfl⟩
theorem cal73 : Callable Try.prog 73 := ⟨_, Try.func73, by decide +kernel, rfl⟩
theorem cal74 : Callable Try.prog 74 := ⟨_, Try.func74, by decide +kernel, rfl⟩
theorem cal75 : Callable Try.prog 75 := ⟨_, Try.func75, by decide +kernel, rfl⟩
theorem cal76 : Callable Try.prog 76 := ⟨_, Try.func76, by decide +kernel, rfl⟩
theorem cal77 : Callable Try.prog 77 := ⟨_, Try.func77, by decide +kernel, rfl⟩
theorem cal78 : Callable Try.prog 78 := ⟨_, Try.func78, by decide +kernel, rfl⟩
theorem cal79 : Callable Try.prog 79 := ⟨_, Try.func79, by decide +kernel, rfl⟩
theorem cal80 : Callable Try.prog 80 := ⟨_, Try.func80, by decide +kernel, rfl⟩
theorem cal81 : Callable Try.prog 81 := ⟨_, Try.func81, by decide +kernel, rfl⟩
theorem cal82 : Callable Try.prog 82 := ⟨_, Try.func82, by decide +kernel, rfl⟩
theorem cal83 : Callable Try.prog 83 := ⟨_, Try.func83, by decide +kernel, rfl⟩
theorem cal84 : Callable Try.prog 84 := ⟨_, Try.func84, by decide +kernel, rfl⟩
theorem cal85 : Callable Try.prog 85 := ⟨_, Try.func85, by decide +kernel, rfl⟩
theorem cal86 : Callable Try.prog 86 := ⟨_, Try.func86, by decide +kernel, rfl⟩
theorem cal87 : Callable Try.prog 87 := ⟨_, Try.func87, by decide +kernel, rfl⟩
theorem cal88 : Callable Try.prog 88 := ⟨_, Try.func88, by decide +kernel, rfl⟩
theorem cal89 : Callable Try.prog 89 := ⟨_, Try.func89, by decide +kernel, rfl⟩
theorem cal90 : Callable Try.prog 90 := ⟨_, Try.func90, by decide +kernel, rfl⟩
theorem mixed : Try.prog.follows .mixedOrders = true := by kernel_rfl
end Go.Proofs.Ytenmnbjhebmpjaa.Pv
