/- The types of this seat's program: shapes, sizes, zero values. -/
import Derived.Test.YtflgoabdgibphaaProg
import Derived.Test.YtflgoabdgibphaaPvM1
import Derived.KernelRfl
namespace Go.Proofs.Ytflgoabdgibphaa.Pv
open Go
set_option maxRecDepth 100000
def ti2 : TI := ⟨.int .i64, 1, 8, [.int .i64 0]⟩
theorem ty2 : TyOK Try.prog 2 ti2 := .mk' (z := .int .i64 0) Try.underlying2 (by kernel_rfl) rfl rfl
def ti3 : TI := ⟨.int .i64, 1, 8, [.int .i64 0]⟩
theorem ty3 : TyOK Try.prog 3 ti3 := .mk' (z := .int .i64 0) Try.underlying3 (by kernel_rfl) rfl rfl
def ti4 : TI := ⟨.bool, 1, 1, [.bool false]⟩
theorem ty4 : TyOK Try.prog 4 ti4 := .mk' (z := .bool false) Try.underlying4 (by kernel_rfl) rfl rfl
def ti5 : TI := ⟨.int .u8, 1, 1, [.int .u8 0]⟩
theorem ty5 : TyOK Try.prog 5 ti5 := .mk' (z := .int .u8 0) Try.underlying5 (by kernel_rfl) rfl rfl
def ti9 : TI := ⟨.string, 1, 16, [.str ByteArray.empty]⟩
theorem ty9 : TyOK Try.prog 9 ti9 := .mk' (z := .string ByteArray.empty) Try.underlying9 (by kernel_rfl) rfl rfl
def ti12 : TI := ⟨.int .u64, 1, 8, [.int .u64 0]⟩
theorem ty12 : TyOK Try.prog 12 ti12 := .mk' (z := .int .u64 0) Try.underlying12 (by kernel_rfl) rfl rfl
def ti13 : TI := ⟨.struct #[⟨"msg", 9, 0, false, "", "runtime", 0⟩, ⟨"addr", 12, 1, false, "", "runtime", 16⟩], 2, 24, [.str ByteArray.empty, .int .u64 0]⟩
theorem ty13 : TyOK Try.prog 13 ti13 := .mk' (z := .agg #[.string ByteArray.empty, .int .u64 0]) Try.underlying13 (by kernel_rfl) rfl rfl
def ti21 : TI := ⟨.int .i32, 1, 4, [.int .i32 0]⟩
theorem ty21 : TyOK Try.prog 21 ti21 := .mk' (z := .int .i32 0) Try.underlying21 (by kernel_rfl) rfl rfl
def ti22 : TI := ⟨.slice 31, 1, 24, [.sl .sh 5 []]⟩
theorem ty22 : TyOK Try.prog 22 ti22 := .mk' (z := .slice none 0 0) Try.underlying22 (by kernel_rfl) rfl rfl
def ti24 : TI := ⟨.int .u64, 1, 8, [.int .u64 0]⟩
theorem ty24 : TyOK Try.prog 24 ti24 := .mk' (z := .int .u64 0) Try.underlying24 (by kernel_rfl) rfl rfl
def ti25 : TI := ⟨.slice 29, 1, 24, [.sl .sh 3 []]⟩
theorem ty25 : TyOK Try.prog 25 ti25 := .mk' (z := .slice none 0 0) Try.underlying25 (by kernel_rfl) rfl rfl
def ti26 : TI := ⟨.struct #[⟨"Promised", 24, 0, false, "", "", 0⟩, ⟨"Votes", 25, 1, false, "", "", 8⟩], 2, 32, [.int .u64 0, .sl .sh 3 []]⟩
theorem ty26 : TyOK Try.prog 26 ti26 := .mk' (z := .agg #[.int .u64 0, .slice none 0 0]) Try.underlying26 (by kernel_rfl) rfl rfl
def ti27 : TI := ⟨.struct #[⟨"Promised", 24, 0, false, "", "", 0⟩, ⟨"Votes", 25, 1, false, "", "", 8⟩], 2, 32, [.int .u64 0, .sl .sh 3 []]⟩
theorem ty27 : TyOK Try.prog 27 ti27 := .mk' (z := .agg #[.int .u64 0, .slice none 0 0]) Try.underlying27 (by kernel_rfl) rfl rfl
def ti28 : TI := ⟨.struct #[⟨"Slot", 3, 0, false, "", "", 0⟩, ⟨"Ballot", 24, 1, false, "", "", 8⟩, ⟨"Value", 9, 2, false, "", "", 16⟩], 3, 32, [.int .i64 0, .int .u64 0, .str ByteArray.empty]⟩
theorem ty28 : TyOK Try.prog 28 ti28 := .mk' (z := .agg #[.int .i64 0, .int .u64 0, .string ByteArray.empty]) Try.underlying28 (by kernel_rfl) rfl rfl
def ti29 : TI := ⟨.struct #[⟨"Slot", 3, 0, false, "", "", 0⟩, ⟨"Ballot", 24, 1, false, "", "", 8⟩, ⟨"Value", 9, 2, false, "", "", 16⟩], 3, 32, [.int .i64 0, .int .u64 0, .str ByteArray.empty]⟩
theorem ty29 : TyOK Try.prog 29 ti29 := .mk' (z := .agg #[.int .i64 0, .int .u64 0, .string ByteArray.empty]) Try.underlying29 (by kernel_rfl) rfl rfl
def ti30 : TI := ⟨.struct #[⟨"Kind", 3, 0, false, "", "", 0⟩, ⟨"B", 24, 1, false, "", "", 8⟩, ⟨"V", 29, 2, false, "", "", 16⟩], 5, 48, [.int .i64 0, .int .u64 0, .int .i64 0, .int .u64 0, .str ByteArray.empty]⟩
theorem ty30 : TyOK Try.prog 30 ti30 := .mk' (z := .agg #[.int .i64 0, .int .u64 0, .int .i64 0, .int .u64 0, .string ByteArray.empty]) Try.underlying30 (by kernel_rfl) rfl rfl
def ti31 : TI := ⟨.struct #[⟨"Kind", 3, 0, false, "", "", 0⟩, ⟨"B", 24, 1, false, "", "", 8⟩, ⟨"V", 29, 2, false, "", "", 16⟩], 5, 48, [.int .i64 0, .int .u64 0, .int .i64 0, .int .u64 0, .str ByteArray.empty]⟩
theorem ty31 : TyOK Try.prog 31 ti31 := .mk' (z := .agg #[.int .i64 0, .int .u64 0, .int .i64 0, .int .u64 0, .string ByteArray.empty]) Try.underlying31 (by kernel_rfl) rfl rfl
def ti32 : TI := ⟨.int .i64, 1, 8, [.int .i64 0]⟩
theorem ty32 : TyOK Try.prog 32 ti32 := .mk' (z := .int .i64 0) Try.underlying32 (by kernel_rfl) rfl rfl
def ti39 : TI := ⟨.struct #[⟨"A", 27, 0, false, "", "", 0⟩, ⟨"B", 24, 2, false, "", "", 32⟩, ⟨"V", 29, 3, false, "", "", 40⟩, ⟨"C", 24, 6, false, "", "", 72⟩], 7, 80, [.int .u64 0, .sl .sh 3 [], .int .u64 0, .int .i64 0, .int .u64 0, .str ByteArray.empty, .int .u64 0]⟩
theorem ty39 : TyOK Try.prog 39 ti39 := .mk' (z := .agg #[.int .u64 0, .slice none 0 0, .int .u64 0, .int .i64 0, .int .u64 0, .string ByteArray.empty, .int .u64 0]) Try.underlying39 (by kernel_rfl) rfl rfl
def ti40 : TI := ⟨.struct #[⟨"A", 27, 0, false, "", "", 0⟩, ⟨"B", 24, 2, false, "", "", 32⟩, ⟨"V", 29, 3, false, "", "", 40⟩, ⟨"C", 24, 6, false, "", "", 72⟩], 7, 80, [.int .u64 0, .sl .sh 3 [], .int .u64 0, .int .i64 0, .int .u64 0, .str ByteArray.empty, .int .u64 0]⟩
theorem ty40 : TyOK Try.prog 40 ti40 := .mk' (z := .agg #[.int .u64 0, .slice none 0 0, .int .u64 0, .int .i64 0, .int .u64 0, .string ByteArray.empty, .int .u64 0]) Try.underlying40 (by kernel_rfl) rfl rfl
def ti42 : TI := ⟨.struct #[⟨"A", 27, 0, false, "", "", 0⟩, ⟨"B", 24, 2, false, "", "", 32⟩, ⟨"V", 29, 3, false, "", "", 40⟩, ⟨"Other", 27, 6, false, "", "", 72⟩], 8, 104, [.int .u64 0, .sl .sh 3 [], .int .u64 0, .int .i64 0, .int .u64 0, .str ByteArray.empty, .int .u64 0, .sl .sh 3 []]⟩
theorem ty42 : TyOK Try.prog 42 ti42 := .mk' (z := .agg #[.int .u64 0, .slice none 0 0, .int .u64 0, .int .i64 0, .int .u64 0, .string ByteArray.empty, .int .u64 0, .slice none 0 0]) Try.underlying42 (by kernel_rfl) rfl rfl
def ti43 : TI := ⟨.struct #[⟨"A", 27, 0, false, "", "", 0⟩, ⟨"B", 24, 2, false, "", "", 32⟩, ⟨"V", 29, 3, false, "", "", 40⟩, ⟨"Other", 27, 6, false, "", "", 72⟩], 8, 104, [.int .u64 0, .sl .sh 3 [], .int .u64 0, .int .i64 0, .int .u64 0, .str ByteArray.empty, .int .u64 0, .sl .sh 3 []]⟩
theorem ty43 : TyOK Try.prog 43 ti43 := .mk' (z := .agg #[.int .u64 0, .slice none 0 0, .int .u64 0, .int .i64 0, .int .u64 0, .string ByteArray.empty, .int .u64 0, .slice none 0 0]) Try.underlying43 (by kernel_rfl) rfl rfl
def ti63 : TI := ⟨.pointer 66, 1, 8, [.nilptr]⟩
theorem ty63 : TyOK Try.prog 63 ti63 := .mk' (z := .pointer none) Try.underlying63 (by kernel_rfl) rfl rfl
def ti64 : TI := ⟨.slice 5, 1, 24, [.sl .sh 1 []]⟩
theorem ty64 : TyOK Try.prog 64 ti64 := .mk' (z := .slice none 0 0) Try.underlying64 (by kernel_rfl) rfl rfl
def ti65 : TI := ⟨.struct #[⟨"addr", 63, 0, false, "", "strings", 0⟩, ⟨"buf", 64, 1, false, "", "strings", 8⟩], 2, 32, [.nilptr, .sl .sh 1 []]⟩
theorem ty65 : TyOK Try.prog 65 ti65 := .mk' (z := .agg #[.pointer none, .slice none 0 0]) Try.underlying65 (by kernel_rfl) rfl rfl
def ti66 : TI := ⟨.struct #[⟨"addr", 63, 0, false, "", "strings", 0⟩, ⟨"buf", 64, 1, false, "", "strings", 8⟩], 2, 32, [.nilptr, .sl .sh 1 []]⟩
theorem ty66 : TyOK Try.prog 66 ti66 := .mk' (z := .agg #[.pointer none, .slice none 0 0]) Try.underlying66 (by kernel_rfl) rfl rfl
def ti83 : TI := ⟨.array 10 5, 10, 10, [.int .u8 0, .int .u8 0, .int .u8 0, .int .u8 0, .int .u8 0, .int .u8 0, .int .u8 0, .int .u8 0, .int .u8 0, .int .u8 0]⟩
theorem ty83 : TyOK Try.prog 83 ti83 := .mk' (z := .agg #[.int .u8 0, .int .u8 0, .int .u8 0, .int .u8 0, .int .u8 0, .int .u8 0, .int .u8 0, .int .u8 0, .int .u8 0, .int .u8 0]) Try.underlying83 (by kernel_rfl) rfl rfl
def ti84 : TI := ⟨.int .u64, 1, 8, [.int .u64 0]⟩
theorem ty84 : TyOK Try.prog 84 ti84 := .mk' (z := .int .u64 0) Try.underlying84 (by kernel_rfl) rfl rfl
def ti85 : TI := ⟨.pointer 5, 1, 8, [.nilptr]⟩
theorem ty85 : TyOK Try.prog 85 ti85 := .mk' (z := .pointer none) Try.underlying85 (by kernel_rfl) rfl rfl
def ti93 : TI := ⟨.array 0 16, 0, 0, []⟩
theorem ty93 : TyOK Try.prog 93 ti93 := .mk' (z := .agg #[]) Try.underlying93 (by kernel_rfl) rfl rfl
def ti94 : TI := ⟨.struct #[⟨"_", 93, 0, false, "", "runtime", 0⟩], 0, 0, []⟩
theorem ty94 : TyOK Try.prog 94 ti94 := .mk' (z := .agg #[]) Try.underlying94 (by kernel_rfl) rfl rfl
def ti97 : TI := ⟨.int .u32, 1, 4, [.int .u32 0]⟩
theorem ty97 : TyOK Try.prog 97 ti97 := .mk' (z := .int .u32 0) Try.underlying97 (by kernel_rfl) rfl rfl
def tt : TT := [(2, ti2), (3, ti3), (4, ti4), (5, ti5), (9, ti9), (12, ti12), (13, ti13), (21, ti21), (22, ti22), (24, ti24), (25, ti25), (26, ti26), (27, ti27), (28, ti28), (29, ti29), (30, ti30), (31, ti31), (32, ti32), (39, ti39), (40, ti40), (42, ti42), (43, ti43), (63, ti63), (64, ti64), (65, ti65), (66, ti66), (83, ti83), (84, ti84), (85, ti85), (93, ti93), (94, ti94), (97, ti97)]
theorem tab : TabOK Try.prog tt := (.cons ty2 (.cons ty3 (.cons ty4 (.cons ty5 (.cons ty9 (.cons ty12 (.cons ty13 (.cons ty21 (.cons ty22 (.cons ty24 (.cons ty25 (.cons ty26 (.cons ty27 (.cons ty28 (.cons ty29 (.cons ty30 (.cons ty31 (.cons ty32 (.cons ty39 (.cons ty40 (.cons ty42 (.cons ty43 (.cons ty63 (.cons ty64 (.cons ty65 (.cons ty66 (.cons ty83 (.cons ty84 (.cons ty85 (.cons ty93 (.cons ty94 (.cons ty97 (TabOK.nil _)))))))))))))))))))))))))))))))))
theorem cal2 : Callable Try.prog 2 := ⟨_, Try.func2, by decide +kernel, rfl⟩
theorem cal3 : Callable Try.prog 3 := ⟨_, Try.func3, by decide +kernel, rfl⟩
theorem cal4 : Callable Try.prog 4 := ⟨_, Try.func4, by decide +kernel, rfl⟩
theorem cal5 : Callable Try.prog 5 := ⟨_, Try.func5, by decide +kernel, rfl⟩
theorem cal6 : Callable Try.prog 6 := ⟨_, Try.func6, by decide +kernel, rfl⟩
theorem cal7 : Callable Try.prog 7 := ⟨_, Try.func7, by decide +kernel, rfl⟩
theorem cal8 : Callable Try.prog 8 := ⟨_, Try.func8, by decide +kernel, rfl⟩
theorem cal9 : Callable Try.prog 9 := ⟨_, Try.func9, by decide +kernel, rfl⟩
theorem cal10 : Callable Try.prog 10 := ⟨_, Try.func10, by decide +kernel, rfl⟩
theorem cal11 : Callable Try.prog 11 := ⟨_, Try.func11, by decide +kernel, rfl⟩
theorem cal12 : Callable Try.prog 12 := ⟨_, Try.func12, by decide +kernel, rfl⟩
theorem cal13 : Callable Try.prog 13 := ⟨_, Try.func13, by decide +kernel, rfl⟩
theorem cal14 : Callable Try.prog 14 := ⟨_, Try.func14, by decide +kernel, rfl⟩
theorem cal15 : Callable Try.prog 15 := ⟨_, Try.func15, by decide +kernel, rfl⟩
theorem cal16 : Callable Try.prog 16 := ⟨_, Try.func16, by decide +kernel, rfl⟩
theorem cal17 : Callable Try.prog 17 := ⟨_, Try.func17, by decide +kernel, rfl⟩
theorem cal18 : Callable Try.prog 18 := ⟨_, Try.func18, by decide +kernel, rfl⟩
theorem cal19 : Callable Try.prog 19 := ⟨_, Try.func19, by decide +kernel, rfl⟩
theorem cal20 : Callable Try.prog 20 := ⟨_, Try.func20, by decide +kernel, rfl⟩
theorem cal21 : Callable Try.prog 21 := ⟨_, Try.func21, by decide +kernel, rfl⟩
theorem cal22 : Callable Try.prog 22 := ⟨_, Try.func22, by decide +kernel, rfl⟩
theorem cal23 : Callable Try.prog 23 := ⟨_, Try.func23, by decide +kernel, rfl⟩
theorem cal24 : Callable Try.prog 24 := ⟨_, Try.func24, by decide +kernel, rfl⟩
theorem cal25 : Callable Try.prog 25 := ⟨_, Try.func25, by decide +kernel, rfl⟩
theorem cal26 : Callable Try.prog 26 := ⟨_, Try.func26, by decide +kernel, rfl⟩
theorem cal27 : Callable Try.prog 27 := ⟨_, Try.func27, by decide +kernel, rfl⟩
theorem cal28 : Callable Try.prog 28 := ⟨_, Try.func28, by decide +kernel, rfl⟩
theorem cal29 : Callable Try.prog 29 := ⟨_, Try.func29, by decide +kernel, rfl⟩
theorem cal30 : Callable Try.prog 30 := ⟨_, Try.func30, by decide +kernel, rfl⟩
theorem cal31 : Callable Try.prog 31 := ⟨_, Try.func31, by decide +kernel, rfl⟩
theorem cal32 : Callable Try.prog 32 := ⟨_, Try.func32, by decide +kernel, rfl⟩
theorem cal33 : Callable Try.prog 33 := ⟨_, Try.func33, by decide +kernel, rfl⟩
theorem cal34 : Callable Try.prog 34 := ⟨_, Try.func34, by decide +kernel, rfl⟩
theorem cal35 : Callable Try.prog 35 := ⟨_, Try.func35, by decide +kernel, rfl⟩
theorem cal36 : Callable Try.prog 36 := ⟨_, Try.func36, by decide +kernel, rfl⟩
theorem cal37 : Callable Try.prog 37 := ⟨_, Try.func37, by decide +kernel, rfl⟩
theorem cal38 : Callable Try.prog 38 := ⟨_, Try.func38, by decide +kernel, rfl⟩
theorem cal39 : Callable Try.prog 39 := ⟨_, Try.func39, by decide +kernel, rfl⟩
theorem cal41 : Callable Try.prog 41 := ⟨_, Try.func41, by decide +kernel, rfl⟩
theorem cal42 : Callable Try.prog 42 := ⟨_, Try.func42, by decide +kernel, rfl⟩
theorem cal43 : Callable Try.prog 43 := ⟨_, Try.func43, by decide +kernel, rfl⟩
theorem cal44 : Callable Try.prog 44 := ⟨_, Try.func44, by decide +kernel, rfl⟩
theorem cal46 : Callable Try.prog 46 := ⟨_, Try.func46, by decide +kernel, rfl⟩
theorem mixed : Try.prog.follows .mixedOrders = true := by kernel_rfl
end Go.Proofs.Ytflgoabdgibphaa.Pv
