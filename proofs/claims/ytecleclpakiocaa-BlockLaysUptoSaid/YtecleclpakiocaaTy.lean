/- The types of this seat's program: shapes, sizes, zero values. -/
import Derived.Test.YtecleclpakiocaaProg
import Derived.Test.YtecleclpakiocaaPvN
import Derived.KernelRfl
namespace Go.Proofs.Ytecleclpakiocaa.Pv
open Go
set_option maxRecDepth 100000
def ti2 : TI := ⟨.int .i64, 1, 8, [.int .i64 0]⟩
theorem ty2 : TyOK Try.prog 2 ti2 := .mk' (z := .int .i64 0) Try.underlying2 (by kernel_rfl) rfl rfl
def ti3 : TI := ⟨.int .i64, 1, 8, [.int .i64 0]⟩
theorem ty3 : TyOK Try.prog 3 ti3 := .mk' (z := .int .i64 0) Try.underlying3 (by kernel_rfl) rfl rfl
def ti4 : TI := ⟨.bool, 1, 1, [.bool false]⟩
theorem ty4 : TyOK Try.prog 4 ti4 := .mk' (z := .bool false) Try.underlying4 (by kernel_rfl) rfl rfl
def ti5 : TI := ⟨.int .u8, 1, 1, [.int .u8 0]⟩
theorem ty5 : TyOK Try.prog 5 ti5 := .mk' (z := .int .u8 0) Try.underlying5 (by kernel_rfl) rfl rfl
def ti9 : TI := ⟨.string, 1, 16, [.str ByteArray.empty]⟩
theorem ty9 : TyOK Try.prog 9 ti9 := .mk' (z := .string ByteArray.empty) Try.underlying9 (by kernel_rfl) rfl rfl
def ti12 : TI := ⟨.int .u64, 1, 8, [.int .u64 0]⟩
theorem ty12 : TyOK Try.prog 12 ti12 := .mk' (z := .int .u64 0) Try.underlying12 (by kernel_rfl) rfl rfl
def ti13 : TI := ⟨.struct #[⟨"msg", 9, 0, false, "", "runtime", 0⟩, ⟨"addr", 12, 1, false, "", "runtime", 16⟩], 2, 24, [.str ByteArray.empty, .int .u64 0]⟩
theorem ty13 : TyOK Try.prog 13 ti13 := .mk' (z := .agg #[.string ByteArray.empty, .int .u64 0]) Try.underlying13 (by kernel_rfl) rfl rfl
def ti21 : TI := ⟨.int .i32, 1, 4, [.int .i32 0]⟩
theorem ty21 : TyOK Try.prog 21 ti21 := .mk' (z := .int .i32 0) Try.underlying21 (by kernel_rfl) rfl rfl
def ti22 : TI := ⟨.slice 9, 1, 24, [.sl .sh 1 []]⟩
theorem ty22 : TyOK Try.prog 22 ti22 := .mk' (z := .slice none 0 0) Try.underlying22 (by kernel_rfl) rfl rfl
def ti23 : TI := ⟨.struct #[⟨"S", 9, 0, false, "", "", 0⟩, ⟨"K", 3, 1, false, "", "", 16⟩, ⟨"L", 22, 2, false, "", "", 24⟩, ⟨"N", 3, 3, false, "", "", 48⟩], 4, 56, [.str ByteArray.empty, .int .i64 0, .sl .sh 1 [], .int .i64 0]⟩
theorem ty23 : TyOK Try.prog 23 ti23 := .mk' (z := .agg #[.string ByteArray.empty, .int .i64 0, .slice none 0 0, .int .i64 0]) Try.underlying23 (by kernel_rfl) rfl rfl
def ti24 : TI := ⟨.struct #[⟨"S", 9, 0, false, "", "", 0⟩, ⟨"K", 3, 1, false, "", "", 16⟩, ⟨"L", 22, 2, false, "", "", 24⟩, ⟨"N", 3, 3, false, "", "", 48⟩], 4, 56, [.str ByteArray.empty, .int .i64 0, .sl .sh 1 [], .int .i64 0]⟩
theorem ty24 : TyOK Try.prog 24 ti24 := .mk' (z := .agg #[.string ByteArray.empty, .int .i64 0, .slice none 0 0, .int .i64 0]) Try.underlying24 (by kernel_rfl) rfl rfl
def ti26 : TI := ⟨.int .i64, 1, 8, [.int .i64 0]⟩
theorem ty26 : TyOK Try.prog 26 ti26 := .mk' (z := .int .i64 0) Try.underlying26 (by kernel_rfl) rfl rfl
def ti38 : TI := ⟨.slice 41, 1, 24, [.sl .sh 2 []]⟩
theorem ty38 : TyOK Try.prog 38 ti38 := .mk' (z := .slice none 0 0) Try.underlying38 (by kernel_rfl) rfl rfl
def ti40 : TI := ⟨.struct #[⟨"Off", 3, 0, false, "", "", 0⟩, ⟨"Bytes", 9, 1, false, "", "", 8⟩], 2, 24, [.int .i64 0, .str ByteArray.empty]⟩
theorem ty40 : TyOK Try.prog 40 ti40 := .mk' (z := .agg #[.int .i64 0, .string ByteArray.empty]) Try.underlying40 (by kernel_rfl) rfl rfl
def ti41 : TI := ⟨.struct #[⟨"Off", 3, 0, false, "", "", 0⟩, ⟨"Bytes", 9, 1, false, "", "", 8⟩], 2, 24, [.int .i64 0, .str ByteArray.empty]⟩
theorem ty41 : TyOK Try.prog 41 ti41 := .mk' (z := .agg #[.int .i64 0, .string ByteArray.empty]) Try.underlying41 (by kernel_rfl) rfl rfl
def ti44 : TI := ⟨.struct #[⟨"S", 9, 0, false, "", "", 0⟩, ⟨"Off", 3, 1, false, "", "", 16⟩, ⟨"M", 3, 2, false, "", "", 24⟩, ⟨"N", 3, 3, false, "", "", 32⟩], 4, 40, [.str ByteArray.empty, .int .i64 0, .int .i64 0, .int .i64 0]⟩
theorem ty44 : TyOK Try.prog 44 ti44 := .mk' (z := .agg #[.string ByteArray.empty, .int .i64 0, .int .i64 0, .int .i64 0]) Try.underlying44 (by kernel_rfl) rfl rfl
def ti45 : TI := ⟨.struct #[⟨"S", 9, 0, false, "", "", 0⟩, ⟨"Off", 3, 1, false, "", "", 16⟩, ⟨"M", 3, 2, false, "", "", 24⟩, ⟨"N", 3, 3, false, "", "", 32⟩], 4, 40, [.str ByteArray.empty, .int .i64 0, .int .i64 0, .int .i64 0]⟩
theorem ty45 : TyOK Try.prog 45 ti45 := .mk' (z := .agg #[.string ByteArray.empty, .int .i64 0, .int .i64 0, .int .i64 0]) Try.underlying45 (by kernel_rfl) rfl rfl
def ti50 : TI := ⟨.struct #[⟨"A", 9, 0, false, "", "", 0⟩, ⟨"B", 9, 1, false, "", "", 16⟩, ⟨"Size", 3, 2, false, "", "", 32⟩, ⟨"L", 38, 3, false, "", "", 40⟩, ⟨"Off", 3, 4, false, "", "", 64⟩, ⟨"N", 3, 5, false, "", "", 72⟩], 6, 80, [.str ByteArray.empty, .str ByteArray.empty, .int .i64 0, .sl .sh 2 [], .int .i64 0, .int .i64 0]⟩
theorem ty50 : TyOK Try.prog 50 ti50 := .mk' (z := .agg #[.string ByteArray.empty, .string ByteArray.empty, .int .i64 0, .slice none 0 0, .int .i64 0, .int .i64 0]) Try.underlying50 (by kernel_rfl) rfl rfl
def ti51 : TI := ⟨.struct #[⟨"A", 9, 0, false, "", "", 0⟩, ⟨"B", 9, 1, false, "", "", 16⟩, ⟨"Size", 3, 2, false, "", "", 32⟩, ⟨"L", 38, 3, false, "", "", 40⟩, ⟨"Off", 3, 4, false, "", "", 64⟩, ⟨"N", 3, 5, false, "", "", 72⟩], 6, 80, [.str ByteArray.empty, .str ByteArray.empty, .int .i64 0, .sl .sh 2 [], .int .i64 0, .int .i64 0]⟩
theorem ty51 : TyOK Try.prog 51 ti51 := .mk' (z := .agg #[.string ByteArray.empty, .string ByteArray.empty, .int .i64 0, .slice none 0 0, .int .i64 0, .int .i64 0]) Try.underlying51 (by kernel_rfl) rfl rfl
def ti56 : TI := ⟨.slice 5, 1, 24, [.sl .sh 1 []]⟩
theorem ty56 : TyOK Try.prog 56 ti56 := .mk' (z := .slice none 0 0) Try.underlying56 (by kernel_rfl) rfl rfl
def ti59 : TI := ⟨.pointer 61, 1, 8, [.dead]⟩
theorem ty59 : TyOK Try.prog 59 ti59 := .mk' (z := .pointer none) Try.underlying59 (by kernel_rfl) rfl rfl
def ti60 : TI := ⟨.struct #[⟨"addr", 59, 0, false, "", "strings", 0⟩, ⟨"buf", 56, 1, false, "", "strings", 8⟩], 2, 32, [.dead, .sl .sh 1 []]⟩
theorem ty60 : TyOK Try.prog 60 ti60 := .mk' (z := .agg #[.pointer none, .slice none 0 0]) Try.underlying60 (by kernel_rfl) rfl rfl
def ti61 : TI := ⟨.struct #[⟨"addr", 59, 0, false, "", "strings", 0⟩, ⟨"buf", 56, 1, false, "", "strings", 8⟩], 2, 32, [.dead, .sl .sh 1 []]⟩
theorem ty61 : TyOK Try.prog 61 ti61 := .mk' (z := .agg #[.pointer none, .slice none 0 0]) Try.underlying61 (by kernel_rfl) rfl rfl
def ti68 : TI := ⟨.pointer 5, 1, 8, [.dead]⟩
theorem ty68 : TyOK Try.prog 68 ti68 := .mk' (z := .pointer none) Try.underlying68 (by kernel_rfl) rfl rfl
def ti74 : TI := ⟨.array 0 16, 0, 0, []⟩
theorem ty74 : TyOK Try.prog 74 ti74 := .mk' (z := .agg #[]) Try.underlying74 (by kernel_rfl) rfl rfl
def ti75 : TI := ⟨.struct #[⟨"_", 74, 0, false, "", "runtime", 0⟩], 0, 0, []⟩
theorem ty75 : TyOK Try.prog 75 ti75 := .mk' (z := .agg #[]) Try.underlying75 (by kernel_rfl) rfl rfl
def ti78 : TI := ⟨.int .u32, 1, 4, [.int .u32 0]⟩
theorem ty78 : TyOK Try.prog 78 ti78 := .mk' (z := .int .u32 0) Try.underlying78 (by kernel_rfl) rfl rfl
def tt : TT := [(2, ti2), (3, ti3), (4, ti4), (5, ti5), (9, ti9), (12, ti12), (13, ti13), (21, ti21), (22, ti22), (23, ti23), (24, ti24), (26, ti26), (38, ti38), (40, ti40), (41, ti41), (44, ti44), (45, ti45), (50, ti50), (51, ti51), (56, ti56), (59, ti59), (60, ti60), (61, ti61), (68, ti68), (74, ti74), (75, ti75), (78, ti78)]
theorem tab : TabOK Try.prog tt := (.cons ty2 (.cons ty3 (.cons ty4 (.cons ty5 (.cons ty9 (.cons ty12 (.cons ty13 (.cons ty21 (.cons ty22 (.cons ty23 (.cons ty24 (.cons ty26 (.cons ty38 (.cons ty40 (.cons ty41 (.cons ty44 (.cons ty45 (.cons ty50 (.cons ty51 (.cons ty56 (.cons ty59 (.cons ty60 (.cons ty61 (.cons ty68 (.cons ty74 (.cons ty75 (.cons ty78 (TabOK.nil _))))))))))))))))))))))))))))
theorem cal2 : Callable Try.prog 2 := ⟨_, Try.func2, by decide +kernel, rfl⟩
theorem cal3 : Callable Try.prog 3 := ⟨_, Try.func3, by decide +kernel, rfl⟩
theorem cal4 : Callable Try.prog 4 := ⟨_, Try.func4, by decide +kernel, rfl⟩
theorem cal5 : Callable Try.prog 5 := ⟨_, Try.func5, by decide +kernel, rfl⟩
theorem cal6 : Callable Try.prog 6 := ⟨_, Try.func6, by decide +kernel, rfl⟩
theorem cal7 : Callable Try.prog 7 := ⟨_, Try.func7, by decide +kernel, rfl⟩
theorem cal8 : Callable Try.prog 8 := ⟨_, Try.func8, by decide +kernel, rfl⟩
theorem cal9 : Callable Try.prog 9 := ⟨_, Try.func9, by decide +kernel, rfl⟩
theorem cal10 : Callable Try.prog 10 := ⟨_, Try.func10, by decide +kernel, rfl⟩
theorem cal11 : Callable Try.prog 11 := ⟨_, Try.func11, by decide +kernel, rfl⟩
theorem cal12 : Callable Try.prog 12 := ⟨_, Try.func12, by decide +kernel, rfl⟩
theorem cal13 : Callable Try.prog 13 := ⟨_, Try.func13, by decide +kernel, rfl⟩
theorem cal14 : Callable Try.prog 14 := ⟨_, Try.func14, by decide +kernel, rfl⟩
theorem cal15 : Callable Try.prog 15 := ⟨_, Try.func15, by decide +kernel, rfl⟩
theorem cal16 : Callable Try.prog 16 := ⟨_, Try.func16, by decide +kernel, rfl⟩
theorem cal17 : Callable Try.prog 17 := ⟨_, Try.func17, by decide +kernel, rfl⟩
theorem cal18 : Callable Try.prog 18 := ⟨_, Try.func18, by decide +kernel, rfl⟩
theorem cal19 : Callable Try.prog 19 := ⟨_, Try.func19, by decide +kernel, rfl⟩
theorem cal20 : Callable Try.prog 20 := ⟨_, Try.func20, by decide +kernel, rfl⟩
theorem cal21 : Callable Try.prog 21 := ⟨_, Try.func21, by decide +kernel, rfl⟩
theorem cal22 : Callable Try.prog 22 := ⟨_, Try.func22, by decide +kernel, rfl⟩
theorem cal23 : Callable Try.prog 23 := ⟨_, Try.func23, by decide +kernel, rfl⟩
theorem cal24 : Callable Try.prog 24 := ⟨_, Try.func24, by decide +kernel, rfl⟩
theorem cal25 : Callable Try.prog 25 := ⟨_, Try.func25, by decide +kernel, rfl⟩
theorem cal26 : Callable Try.prog 26 := ⟨_, Try.func26, by decide +kernel, rfl⟩
theorem cal27 : Callable Try.prog 27 := ⟨_, Try.func27, by decide +kernel, rfl⟩
theorem cal28 : Callable Try.prog 28 := ⟨_, Try.func28, by decide +kernel, rfl⟩
theorem mixed : Try.prog.follows .mixedOrders = true := by kernel_rfl
end Go.Proofs.Ytecleclpakiocaa.Pv
