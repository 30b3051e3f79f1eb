/- The types of this seat's program: shapes, sizes, zero values. -/
import Derived.Test.YtilfahfadlijcaaProg
import Derived.Test.YtilfahfadlijcaaPvN
import Derived.KernelRfl
namespace Go.Proofs.Ytilfahfadlijcaa.Pv
open Go
set_option maxRecDepth 100000
def ti2 : TI := ⟨.int .i64, 1, 8, [.int .i64 0]⟩
theorem ty2 : TyOK Try.prog 2 ti2 := .mk' (z := .int .i64 0) Try.underlying2 (by kernel_rfl) rfl rfl
def ti3 : TI := ⟨.int .i64, 1, 8, [.int .i64 0]⟩
theorem ty3 : TyOK Try.prog 3 ti3 := .mk' (z := .int .i64 0) Try.underlying3 (by kernel_rfl) rfl rfl
def ti4 : TI := ⟨.bool, 1, 1, [.bool false]⟩
theorem ty4 : TyOK Try.prog 4 ti4 := .mk' (z := .bool false) Try.underlying4 (by kernel_rfl) rfl rfl
def ti5 : TI := ⟨.int .u8, 1, 1, [.int .u8 0]⟩
theorem ty5 : TyOK Try.prog 5 ti5 := .mk' (z := .int .u8 0) Try.underlying5 (by kernel_rfl) rfl rfl
def ti9 : TI := ⟨.string, 1, 16, [.str ByteArray.empty]⟩
theorem ty9 : TyOK Try.prog 9 ti9 := .mk' (z := .string ByteArray.empty) Try.underlying9 (by kernel_rfl) rfl rfl
def ti12 : TI := ⟨.int .u64, 1, 8, [.int .u64 0]⟩
theorem ty12 : TyOK Try.prog 12 ti12 := .mk' (z := .int .u64 0) Try.underlying12 (by kernel_rfl) rfl rfl
def ti13 : TI := ⟨.struct #[⟨"msg", 9, 0, false, "", "runtime", 0⟩, ⟨"addr", 12, 1, false, "", "runtime", 16⟩], 2, 24, [.str ByteArray.empty, .int .u64 0]⟩
theorem ty13 : TyOK Try.prog 13 ti13 := .mk' (z := .agg #[.string ByteArray.empty, .int .u64 0]) Try.underlying13 (by kernel_rfl) rfl rfl
def ti21 : TI := ⟨.int .i32, 1, 4, [.int .i32 0]⟩
theorem ty21 : TyOK Try.prog 21 ti21 := .mk' (z := .int .i32 0) Try.underlying21 (by kernel_rfl) rfl rfl
def ti22 : TI := ⟨.slice 4, 1, 24, [.sl .sh 1 []]⟩
theorem ty22 : TyOK Try.prog 22 ti22 := .mk' (z := .slice none 0 0) Try.underlying22 (by kernel_rfl) rfl rfl
def ti24 : TI := ⟨.slice 3, 1, 24, [.sl .sh 1 []]⟩
theorem ty24 : TyOK Try.prog 24 ti24 := .mk' (z := .slice none 0 0) Try.underlying24 (by kernel_rfl) rfl rfl
def ti28 : TI := ⟨.int .i64, 1, 8, [.int .i64 0]⟩
theorem ty28 : TyOK Try.prog 28 ti28 := .mk' (z := .int .i64 0) Try.underlying28 (by kernel_rfl) rfl rfl
def ti32 : TI := ⟨.struct #[⟨"Vol", 3, 0, false, "", "", 0⟩, ⟨"Region", 3, 1, false, "", "", 8⟩, ⟨"Many", 3, 2, false, "", "", 16⟩, ⟨"Nodes", 3, 3, false, "", "", 24⟩, ⟨"Live", 22, 4, false, "", "", 32⟩], 5, 56, [.int .i64 0, .int .i64 0, .int .i64 0, .int .i64 0, .sl .sh 1 []]⟩
theorem ty32 : TyOK Try.prog 32 ti32 := .mk' (z := .agg #[.int .i64 0, .int .i64 0, .int .i64 0, .int .i64 0, .slice none 0 0]) Try.underlying32 (by kernel_rfl) rfl rfl
def ti33 : TI := ⟨.struct #[⟨"Vol", 3, 0, false, "", "", 0⟩, ⟨"Region", 3, 1, false, "", "", 8⟩, ⟨"Many", 3, 2, false, "", "", 16⟩, ⟨"Nodes", 3, 3, false, "", "", 24⟩, ⟨"Live", 22, 4, false, "", "", 32⟩], 5, 56, [.int .i64 0, .int .i64 0, .int .i64 0, .int .i64 0, .sl .sh 1 []]⟩
theorem ty33 : TyOK Try.prog 33 ti33 := .mk' (z := .agg #[.int .i64 0, .int .i64 0, .int .i64 0, .int .i64 0, .slice none 0 0]) Try.underlying33 (by kernel_rfl) rfl rfl
def ti35 : TI := ⟨.slice 44, 1, 24, [.sl .sh 2 []]⟩
theorem ty35 : TyOK Try.prog 35 ti35 := .mk' (z := .slice none 0 0) Try.underlying35 (by kernel_rfl) rfl rfl
def ti42 : TI := ⟨.struct #[⟨"Vol", 3, 0, false, "", "", 0⟩, ⟨"Region", 3, 1, false, "", "", 8⟩, ⟨"Many", 3, 2, false, "", "", 16⟩, ⟨"Nodes", 3, 3, false, "", "", 24⟩, ⟨"Live", 22, 4, false, "", "", 32⟩], 5, 56, [.int .i64 0, .int .i64 0, .int .i64 0, .int .i64 0, .sl .sh 1 []]⟩
theorem ty42 : TyOK Try.prog 42 ti42 := .mk' (z := .agg #[.int .i64 0, .int .i64 0, .int .i64 0, .int .i64 0, .slice none 0 0]) Try.underlying42 (by kernel_rfl) rfl rfl
def ti43 : TI := ⟨.struct #[⟨"Region", 3, 0, false, "", "", 0⟩, ⟨"Node", 3, 1, false, "", "", 8⟩], 2, 16, [.int .i64 0, .int .i64 0]⟩
theorem ty43 : TyOK Try.prog 43 ti43 := .mk' (z := .agg #[.int .i64 0, .int .i64 0]) Try.underlying43 (by kernel_rfl) rfl rfl
def ti44 : TI := ⟨.struct #[⟨"Region", 3, 0, false, "", "", 0⟩, ⟨"Node", 3, 1, false, "", "", 8⟩], 2, 16, [.int .i64 0, .int .i64 0]⟩
theorem ty44 : TyOK Try.prog 44 ti44 := .mk' (z := .agg #[.int .i64 0, .int .i64 0]) Try.underlying44 (by kernel_rfl) rfl rfl
def ti46 : TI := ⟨.struct #[⟨"A", 3, 0, false, "", "", 0⟩, ⟨"B", 3, 1, false, "", "", 8⟩, ⟨"L", 35, 2, false, "", "", 16⟩, ⟨"Nodes", 3, 3, false, "", "", 40⟩, ⟨"Live", 22, 4, false, "", "", 48⟩], 5, 72, [.int .i64 0, .int .i64 0, .sl .sh 2 [], .int .i64 0, .sl .sh 1 []]⟩
theorem ty46 : TyOK Try.prog 46 ti46 := .mk' (z := .agg #[.int .i64 0, .int .i64 0, .slice none 0 0, .int .i64 0, .slice none 0 0]) Try.underlying46 (by kernel_rfl) rfl rfl
def ti47 : TI := ⟨.struct #[⟨"A", 3, 0, false, "", "", 0⟩, ⟨"B", 3, 1, false, "", "", 8⟩, ⟨"L", 35, 2, false, "", "", 16⟩, ⟨"Nodes", 3, 3, false, "", "", 40⟩, ⟨"Live", 22, 4, false, "", "", 48⟩], 5, 72, [.int .i64 0, .int .i64 0, .sl .sh 2 [], .int .i64 0, .sl .sh 1 []]⟩
theorem ty47 : TyOK Try.prog 47 ti47 := .mk' (z := .agg #[.int .i64 0, .int .i64 0, .slice none 0 0, .int .i64 0, .slice none 0 0]) Try.underlying47 (by kernel_rfl) rfl rfl
def ti70 : TI := ⟨.array 0 16, 0, 0, []⟩
theorem ty70 : TyOK Try.prog 70 ti70 := .mk' (z := .agg #[]) Try.underlying70 (by kernel_rfl) rfl rfl
def ti71 : TI := ⟨.struct #[⟨"_", 70, 0, false, "", "runtime", 0⟩], 0, 0, []⟩
theorem ty71 : TyOK Try.prog 71 ti71 := .mk' (z := .agg #[]) Try.underlying71 (by kernel_rfl) rfl rfl
def ti74 : TI := ⟨.int .u32, 1, 4, [.int .u32 0]⟩
theorem ty74 : TyOK Try.prog 74 ti74 := .mk' (z := .int .u32 0) Try.underlying74 (by kernel_rfl) rfl rfl
def ti78 : TI := ⟨.pointer 5, 1, 8, [.dead]⟩
theorem ty78 : TyOK Try.prog 78 ti78 := .mk' (z := .pointer none) Try.underlying78 (by kernel_rfl) rfl rfl
def tt : TT := [(2, ti2), (3, ti3), (4, ti4), (5, ti5), (9, ti9), (12, ti12), (13, ti13), (21, ti21), (22, ti22), (24, ti24), (28, ti28), (32, ti32), (33, ti33), (35, ti35), (42, ti42), (43, ti43), (44, ti44), (46, ti46), (47, ti47), (70, ti70), (71, ti71), (74, ti74), (78, ti78)]
theorem tab : TabOK Try.prog tt := (.cons ty2 (.cons ty3 (.cons ty4 (.cons ty5 (.cons ty9 (.cons ty12 (.cons ty13 (.cons ty21 (.cons ty22 (.cons ty24 (.cons ty28 (.cons ty32 (.cons ty33 (.cons ty35 (.cons ty42 (.cons ty43 (.cons ty44 (.cons ty46 (.cons ty47 (.cons ty70 (.cons ty71 (.cons ty74 (.cons ty78 (TabOK.nil _))))))))))))))))))))))))
theorem cal2 : Callable Try.prog 2 := ⟨_, Try.func2, by decide +kernel, rfl⟩
theorem cal3 : Callable Try.prog 3 := ⟨_, Try.func3, by decide +kernel, rfl⟩
theorem cal4 : Callable Try.prog 4 := ⟨_, Try.func4, by decide +kernel, rfl⟩
theorem cal5 : Callable Try.prog 5 := ⟨_, Try.func5, by decide +kernel, rfl⟩
theorem cal6 : Callable Try.prog 6 := ⟨_, Try.func6, by decide +kernel, rfl⟩
theorem cal7 : Callable Try.prog 7 := ⟨_, Try.func7, by decide +kernel, rfl⟩
theorem cal8 : Callable Try.prog 8 := ⟨_, Try.func8, by decide +kernel, rfl⟩
theorem cal9 : Callable Try.prog 9 := ⟨_, Try.func9, by decide +kernel, rfl⟩
theorem cal10 : Callable Try.prog 10 := ⟨_, Try.func10, by decide +kernel, rfl⟩
theorem cal11 : Callable Try.prog 11 := ⟨_, Try.func11, by decide +kernel, rfl⟩
theorem cal12 : Callable Try.prog 12 := ⟨_, Try.func12, by decide +kernel, rfl⟩
theorem cal13 : Callable Try.prog 13 := ⟨_, Try.func13, by decide +kernel, rfl⟩
theorem cal14 : Callable Try.prog 14 := ⟨_, Try.func14, by decide +kernel, rfl⟩
theorem cal15 : Callable Try.prog 15 := ⟨_, Try.func15, by decide +kernel, rfl⟩
theorem cal16 : Callable Try.prog 16 := ⟨_, Try.func16, by decide +kernel, rfl⟩
theorem cal17 : Callable Try.prog 17 := ⟨_, Try.func17, by decide +kernel, rfl⟩
theorem cal18 : Callable Try.prog 18 := ⟨_, Try.func18, by decide +kernel, rfl⟩
theorem cal19 : Callable Try.prog 19 := ⟨_, Try.func19, by decide +kernel, rfl⟩
theorem cal20 : Callable Try.prog 20 := ⟨_, Try.func20, by decide +kernel, rfl⟩
theorem cal21 : Callable Try.prog 21 := ⟨_, Try.func21, by decide +kernel, rfl⟩
theorem cal22 : Callable Try.prog 22 := ⟨_, Try.func22, by decide +kernel, rfl⟩
theorem cal23 : Callable Try.prog 23 := ⟨_, Try.func23, by decide +kernel, rfl⟩
theorem cal24 : Callable Try.prog 24 := ⟨_, Try.func24, by decide +kernel, rfl⟩
theorem cal25 : Callable Try.prog 25 := ⟨_, Try.func25, by decide +kernel, rfl⟩
theorem cal26 : Callable Try.prog 26 := ⟨_, Try.func26, by decide +kernel, rfl⟩
theorem cal27 : Callable Try.prog 27 := ⟨_, Try.func27, by decide +kernel, rfl⟩
theorem cal28 : Callable Try.prog 28 := ⟨_, Try.func28, by decide +kernel, rfl⟩
theorem cal29 : Callable Try.prog 29 := ⟨_, Try.func29, by decide +kernel, rfl⟩
theorem cal30 : Callable Try.prog 30 := ⟨_, Try.func30, by decide +kernel, rfl⟩
theorem cal31 : Callable Try.prog 31 := ⟨_, Try.func31, by decide +kernel, rfl⟩
theorem cal32 : Callable Try.prog 32 := ⟨_, Try.func32, by decide +kernel, rfl⟩
theorem mixed : Try.prog.follows .mixedOrders = true := by kernel_rfl
end Go.Proofs.Ytilfahfadlijcaa.Pv
