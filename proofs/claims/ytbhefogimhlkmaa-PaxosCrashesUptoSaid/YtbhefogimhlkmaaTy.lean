/- The types of this seat's program: shapes, sizes, zero values. -/
import Derived.Test.YtbhefogimhlkmaaProg
import Derived.Test.YtbhefogimhlkmaaPvM1
import Derived.KernelRfl
namespace Go.Proofs.Ytbhefogimhlkmaa.Pv
open Go
set_option maxRecDepth 100000
def ti2 : TI := ⟨.int .i64, 1, 8, [.int .i64 0]⟩
theorem ty2 : TyOK Try.prog 2 ti2 := .mk' (z := .int .i64 0) Try.underlying2 (by kernel_rfl) rfl rfl
def ti3 : TI := ⟨.int .i64, 1, 8, [.int .i64 0]⟩
theorem ty3 : TyOK Try.prog 3 ti3 := .mk' (z := .int .i64 0) Try.underlying3 (by kernel_rfl) rfl rfl
def ti4 : TI := ⟨.bool, 1, 1, [.bool false]⟩
theorem ty4 : TyOK Try.prog 4 ti4 := .mk' (z := .bool false) Try.underlying4 (by kernel_rfl) rfl rfl
def ti5 : TI := ⟨.int .u8, 1, 1, [.int .u8 0]⟩
theorem ty5 : TyOK Try.prog 5 ti5 := .mk' (z := .int .u8 0) Try.underlying5 (by kernel_rfl) rfl rfl
def ti9 : TI := ⟨.string, 1, 16, [.str ByteArray.empty]⟩
theorem ty9 : TyOK Try.prog 9 ti9 := .mk' (z := .string ByteArray.empty) Try.underlying9 (by kernel_rfl) rfl rfl
def ti12 : TI := ⟨.int .u64, 1, 8, [.int .u64 0]⟩
theorem ty12 : TyOK Try.prog 12 ti12 := .mk' (z := .int .u64 0) Try.underlying12 (by kernel_rfl) rfl rfl
def ti13 : TI := ⟨.struct #[⟨"msg", 9, 0, false, "", "runtime", 0⟩, ⟨"addr", 12, 1, false, "", "runtime", 16⟩], 2, 24, [.str ByteArray.empty, .int .u64 0]⟩
theorem ty13 : TyOK Try.prog 13 ti13 := .mk' (z := .agg #[.string ByteArray.empty, .int .u64 0]) Try.underlying13 (by kernel_rfl) rfl rfl
def ti21 : TI := ⟨.int .i32, 1, 4, [.int .i32 0]⟩
theorem ty21 : TyOK Try.prog 21 ti21 := .mk' (z := .int .i32 0) Try.underlying21 (by kernel_rfl) rfl rfl
def ti22 : TI := ⟨.int .u64, 1, 8, [.int .u64 0]⟩
theorem ty22 : TyOK Try.prog 22 ti22 := .mk' (z := .int .u64 0) Try.underlying22 (by kernel_rfl) rfl rfl
def ti23 : TI := ⟨.slice 44, 1, 24, [.sl .sh 3 []]⟩
theorem ty23 : TyOK Try.prog 23 ti23 := .mk' (z := .slice none 0 0) Try.underlying23 (by kernel_rfl) rfl rfl
def ti24 : TI := ⟨.struct #[⟨"Promised", 22, 0, false, "", "", 0⟩, ⟨"Votes", 23, 1, false, "", "", 8⟩], 2, 32, [.int .u64 0, .sl .sh 3 []]⟩
theorem ty24 : TyOK Try.prog 24 ti24 := .mk' (z := .agg #[.int .u64 0, .slice none 0 0]) Try.underlying24 (by kernel_rfl) rfl rfl
def ti25 : TI := ⟨.struct #[⟨"Promised", 22, 0, false, "", "", 0⟩, ⟨"Votes", 23, 1, false, "", "", 8⟩], 2, 32, [.int .u64 0, .sl .sh 3 []]⟩
theorem ty25 : TyOK Try.prog 25 ti25 := .mk' (z := .agg #[.int .u64 0, .slice none 0 0]) Try.underlying25 (by kernel_rfl) rfl rfl
def ti26 : TI := ⟨.slice 50, 1, 24, [.sl .sh 2 []]⟩
theorem ty26 : TyOK Try.prog 26 ti26 := .mk' (z := .slice none 0 0) Try.underlying26 (by kernel_rfl) rfl rfl
def ti27 : TI := ⟨.slice 59, 1, 24, [.sl .sh 3 []]⟩
theorem ty27 : TyOK Try.prog 27 ti27 := .mk' (z := .slice none 0 0) Try.underlying27 (by kernel_rfl) rfl rfl
def ti28 : TI := ⟨.slice 9, 1, 24, [.sl .sh 1 []]⟩
theorem ty28 : TyOK Try.prog 28 ti28 := .mk' (z := .slice none 0 0) Try.underlying28 (by kernel_rfl) rfl rfl
def ti29 : TI := ⟨.slice 52, 1, 24, [.sl .sh 2 []]⟩
theorem ty29 : TyOK Try.prog 29 ti29 := .mk' (z := .slice none 0 0) Try.underlying29 (by kernel_rfl) rfl rfl
def ti30 : TI := ⟨.struct #[⟨"Id", 3, 0, false, "", "", 0⟩, ⟨"A", 25, 1, false, "", "", 8⟩, ⟨"Ballot", 22, 3, false, "", "", 40⟩, ⟨"Lead", 4, 4, false, "", "", 48⟩, ⟨"Got", 26, 5, false, "", "", 56⟩, ⟨"Next", 3, 6, false, "", "", 80⟩, ⟨"Acks", 27, 7, false, "", "", 88⟩, ⟨"Log", 28, 8, false, "", "", 112⟩, ⟨"Ahead", 29, 9, false, "", "", 136⟩, ⟨"Idle", 3, 10, false, "", "", 160⟩], 11, 168, [.int .i64 0, .int .u64 0, .sl .sh 3 [], .int .u64 0, .bool false, .sl .sh 2 [], .int .i64 0, .sl .sh 3 [], .sl .sh 1 [], .sl .sh 2 [], .int .i64 0]⟩
theorem ty30 : TyOK Try.prog 30 ti30 := .mk' (z := .agg #[.int .i64 0, .int .u64 0, .slice none 0 0, .int .u64 0, .bool false, .slice none 0 0, .int .i64 0, .slice none 0 0, .slice none 0 0, .slice none 0 0, .int .i64 0]) Try.underlying30 (by kernel_rfl) rfl rfl
def ti31 : TI := ⟨.struct #[⟨"Id", 3, 0, false, "", "", 0⟩, ⟨"A", 25, 1, false, "", "", 8⟩, ⟨"Ballot", 22, 3, false, "", "", 40⟩, ⟨"Lead", 4, 4, false, "", "", 48⟩, ⟨"Got", 26, 5, false, "", "", 56⟩, ⟨"Next", 3, 6, false, "", "", 80⟩, ⟨"Acks", 27, 7, false, "", "", 88⟩, ⟨"Log", 28, 8, false, "", "", 112⟩, ⟨"Ahead", 29, 9, false, "", "", 136⟩, ⟨"Idle", 3, 10, false, "", "", 160⟩], 11, 168, [.int .i64 0, .int .u64 0, .sl .sh 3 [], .int .u64 0, .bool false, .sl .sh 2 [], .int .i64 0, .sl .sh 3 [], .sl .sh 1 [], .sl .sh 2 [], .int .i64 0]⟩
theorem ty31 : TyOK Try.prog 31 ti31 := .mk' (z := .agg #[.int .i64 0, .int .u64 0, .slice none 0 0, .int .u64 0, .bool false, .slice none 0 0, .int .i64 0, .slice none 0 0, .slice none 0 0, .slice none 0 0, .int .i64 0]) Try.underlying31 (by kernel_rfl) rfl rfl
def ti32 : TI := ⟨.struct #[⟨"Kind", 3, 0, false, "", "", 0⟩, ⟨"From", 3, 1, false, "", "", 8⟩, ⟨"To", 3, 2, false, "", "", 16⟩, ⟨"Ballot", 22, 3, false, "", "", 24⟩, ⟨"Slot", 3, 4, false, "", "", 32⟩, ⟨"Value", 9, 5, false, "", "", 40⟩, ⟨"Votes", 23, 6, false, "", "", 56⟩], 7, 80, [.int .i64 0, .int .i64 0, .int .i64 0, .int .u64 0, .int .i64 0, .str ByteArray.empty, .sl .sh 3 []]⟩
theorem ty32 : TyOK Try.prog 32 ti32 := .mk' (z := .agg #[.int .i64 0, .int .i64 0, .int .i64 0, .int .u64 0, .int .i64 0, .string ByteArray.empty, .slice none 0 0]) Try.underlying32 (by kernel_rfl) rfl rfl
def ti33 : TI := ⟨.struct #[⟨"Kind", 3, 0, false, "", "", 0⟩, ⟨"From", 3, 1, false, "", "", 8⟩, ⟨"To", 3, 2, false, "", "", 16⟩, ⟨"Ballot", 22, 3, false, "", "", 24⟩, ⟨"Slot", 3, 4, false, "", "", 32⟩, ⟨"Value", 9, 5, false, "", "", 40⟩, ⟨"Votes", 23, 6, false, "", "", 56⟩], 7, 80, [.int .i64 0, .int .i64 0, .int .i64 0, .int .u64 0, .int .i64 0, .str ByteArray.empty, .sl .sh 3 []]⟩
theorem ty33 : TyOK Try.prog 33 ti33 := .mk' (z := .agg #[.int .i64 0, .int .i64 0, .int .i64 0, .int .u64 0, .int .i64 0, .string ByteArray.empty, .slice none 0 0]) Try.underlying33 (by kernel_rfl) rfl rfl
def ti36 : TI := ⟨.slice 33, 1, 24, [.sl .sh 7 []]⟩
theorem ty36 : TyOK Try.prog 36 ti36 := .mk' (z := .slice none 0 0) Try.underlying36 (by kernel_rfl) rfl rfl
def ti43 : TI := ⟨.struct #[⟨"Slot", 3, 0, false, "", "", 0⟩, ⟨"Ballot", 22, 1, false, "", "", 8⟩, ⟨"Value", 9, 2, false, "", "", 16⟩], 3, 32, [.int .i64 0, .int .u64 0, .str ByteArray.empty]⟩
theorem ty43 : TyOK Try.prog 43 ti43 := .mk' (z := .agg #[.int .i64 0, .int .u64 0, .string ByteArray.empty]) Try.underlying43 (by kernel_rfl) rfl rfl
def ti44 : TI := ⟨.struct #[⟨"Slot", 3, 0, false, "", "", 0⟩, ⟨"Ballot", 22, 1, false, "", "", 8⟩, ⟨"Value", 9, 2, false, "", "", 16⟩], 3, 32, [.int .i64 0, .int .u64 0, .str ByteArray.empty]⟩
theorem ty44 : TyOK Try.prog 44 ti44 := .mk' (z := .agg #[.int .i64 0, .int .u64 0, .string ByteArray.empty]) Try.underlying44 (by kernel_rfl) rfl rfl
def ti46 : TI := ⟨.int .i64, 1, 8, [.int .i64 0]⟩
theorem ty46 : TyOK Try.prog 46 ti46 := .mk' (z := .int .i64 0) Try.underlying46 (by kernel_rfl) rfl rfl
def ti49 : TI := ⟨.struct #[⟨"From", 3, 0, false, "", "", 0⟩, ⟨"Votes", 23, 1, false, "", "", 8⟩], 2, 32, [.int .i64 0, .sl .sh 3 []]⟩
theorem ty49 : TyOK Try.prog 49 ti49 := .mk' (z := .agg #[.int .i64 0, .slice none 0 0]) Try.underlying49 (by kernel_rfl) rfl rfl
def ti50 : TI := ⟨.struct #[⟨"From", 3, 0, false, "", "", 0⟩, ⟨"Votes", 23, 1, false, "", "", 8⟩], 2, 32, [.int .i64 0, .sl .sh 3 []]⟩
theorem ty50 : TyOK Try.prog 50 ti50 := .mk' (z := .agg #[.int .i64 0, .slice none 0 0]) Try.underlying50 (by kernel_rfl) rfl rfl
def ti51 : TI := ⟨.struct #[⟨"Slot", 3, 0, false, "", "", 0⟩, ⟨"Value", 9, 1, false, "", "", 8⟩], 2, 24, [.int .i64 0, .str ByteArray.empty]⟩
theorem ty51 : TyOK Try.prog 51 ti51 := .mk' (z := .agg #[.int .i64 0, .string ByteArray.empty]) Try.underlying51 (by kernel_rfl) rfl rfl
def ti52 : TI := ⟨.struct #[⟨"Slot", 3, 0, false, "", "", 0⟩, ⟨"Value", 9, 1, false, "", "", 8⟩], 2, 24, [.int .i64 0, .str ByteArray.empty]⟩
theorem ty52 : TyOK Try.prog 52 ti52 := .mk' (z := .agg #[.int .i64 0, .string ByteArray.empty]) Try.underlying52 (by kernel_rfl) rfl rfl
def ti53 : TI := ⟨.pointer 55, 1, 8, [.nilptr]⟩
theorem ty53 : TyOK Try.prog 53 ti53 := .mk' (z := .pointer none) Try.underlying53 (by kernel_rfl) rfl rfl
def ti54 : TI := ⟨.struct #[⟨"Replica", 31, 0, true, "", "", 0⟩, ⟨"out", 36, 11, false, "", "hogshead/paxos", 168⟩], 12, 192, [.int .i64 0, .int .u64 0, .sl .sh 3 [], .int .u64 0, .bool false, .sl .sh 2 [], .int .i64 0, .sl .sh 3 [], .sl .sh 1 [], .sl .sh 2 [], .int .i64 0, .sl .sh 7 []]⟩
theorem ty54 : TyOK Try.prog 54 ti54 := .mk' (z := .agg #[.int .i64 0, .int .u64 0, .slice none 0 0, .int .u64 0, .bool false, .slice none 0 0, .int .i64 0, .slice none 0 0, .slice none 0 0, .slice none 0 0, .int .i64 0, .slice none 0 0]) Try.underlying54 (by kernel_rfl) rfl rfl
def ti55 : TI := ⟨.struct #[⟨"Replica", 31, 0, true, "", "", 0⟩, ⟨"out", 36, 11, false, "", "hogshead/paxos", 168⟩], 12, 192, [.int .i64 0, .int .u64 0, .sl .sh 3 [], .int .u64 0, .bool false, .sl .sh 2 [], .int .i64 0, .sl .sh 3 [], .sl .sh 1 [], .sl .sh 2 [], .int .i64 0, .sl .sh 7 []]⟩
theorem ty55 : TyOK Try.prog 55 ti55 := .mk' (z := .agg #[.int .i64 0, .int .u64 0, .slice none 0 0, .int .u64 0, .bool false, .slice none 0 0, .int .i64 0, .slice none 0 0, .slice none 0 0, .slice none 0 0, .int .i64 0, .slice none 0 0]) Try.underlying55 (by kernel_rfl) rfl rfl
def ti58 : TI := ⟨.struct #[⟨"Slot", 3, 0, false, "", "", 0⟩, ⟨"Value", 9, 1, false, "", "", 8⟩, ⟨"Set", 22, 2, false, "", "", 24⟩], 3, 32, [.int .i64 0, .str ByteArray.empty, .int .u64 0]⟩
theorem ty58 : TyOK Try.prog 58 ti58 := .mk' (z := .agg #[.int .i64 0, .string ByteArray.empty, .int .u64 0]) Try.underlying58 (by kernel_rfl) rfl rfl
def ti59 : TI := ⟨.struct #[⟨"Slot", 3, 0, false, "", "", 0⟩, ⟨"Value", 9, 1, false, "", "", 8⟩, ⟨"Set", 22, 2, false, "", "", 24⟩], 3, 32, [.int .i64 0, .str ByteArray.empty, .int .u64 0]⟩
theorem ty59 : TyOK Try.prog 59 ti59 := .mk' (z := .agg #[.int .i64 0, .string ByteArray.empty, .int .u64 0]) Try.underlying59 (by kernel_rfl) rfl rfl
def ti90 : TI := ⟨.slice 23, 1, 24, [.sl .sh 1 []]⟩
theorem ty90 : TyOK Try.prog 90 ti90 := .mk' (z := .slice none 0 0) Try.underlying90 (by kernel_rfl) rfl rfl
def ti98 : TI := ⟨.int .u64, 1, 8, [.int .u64 0]⟩
theorem ty98 : TyOK Try.prog 98 ti98 := .mk' (z := .int .u64 0) Try.underlying98 (by kernel_rfl) rfl rfl
def ti109 : TI := ⟨.array 0 16, 0, 0, []⟩
theorem ty109 : TyOK Try.prog 109 ti109 := .mk' (z := .agg #[]) Try.underlying109 (by kernel_rfl) rfl rfl
def ti110 : TI := ⟨.struct #[⟨"_", 109, 0, false, "", "runtime", 0⟩], 0, 0, []⟩
theorem ty110 : TyOK Try.prog 110 ti110 := .mk' (z := .agg #[]) Try.underlying110 (by kernel_rfl) rfl rfl
def ti113 : TI := ⟨.int .u32, 1, 4, [.int .u32 0]⟩
theorem ty113 : TyOK Try.prog 113 ti113 := .mk' (z := .int .u32 0) Try.underlying113 (by kernel_rfl) rfl rfl
def ti117 : TI := ⟨.pointer 5, 1, 8, [.nilptr]⟩
theorem ty117 : TyOK Try.prog 117 ti117 := .mk' (z := .pointer none) Try.underlying117 (by kernel_rfl) rfl rfl
def tt : TT := [(2, ti2), (3, ti3), (4, ti4), (5, ti5), (9, ti9), (12, ti12), (13, ti13), (21, ti21), (22, ti22), (23, ti23), (24, ti24), (25, ti25), (26, ti26), (27, ti27), (28, ti28), (29, ti29), (30, ti30), (31, ti31), (32, ti32), (33, ti33), (36, ti36), (43, ti43), (44, ti44), (46, ti46), (49, ti49), (50, ti50), (51, ti51), (52, ti52), (53, ti53), (54, ti54), (55, ti55), (58, ti58), (59, ti59), (90, ti90), (98, ti98), (109, ti109), (110, ti110), (113, ti113), (117, ti117)]
theorem tab : TabOK Try.prog tt := (.cons ty2 (.cons ty3 (.cons ty4 (.cons ty5 (.cons ty9 (.cons ty12 (.cons ty13 (.cons ty21 (.cons ty22 (.cons ty23 (.cons ty24 (.cons ty25 (.cons ty26 (.cons ty27 (.cons ty28 (.cons ty29 (.cons ty30 (.cons ty31 (.cons ty32 (.cons ty33 (.cons ty36 (.cons ty43 (.cons ty44 (.cons ty46 (.cons ty49 (.cons ty50 (.cons ty51 (.cons ty52 (.cons ty53 (.cons ty54 (.cons ty55 (.cons ty58 (.cons ty59 (.cons ty90 (.cons ty98 (.cons ty109 (.cons ty110 (.cons ty113 (.cons ty117 (TabOK.nil _))))))))))))))))))))))))))))))))))))))))
theorem cal2 : Callable Try.prog 2 := ⟨_, Try.func2, by decide +kernel, rfl⟩
theorem cal3 : Callable Try.prog 3 := ⟨_, Try.func3, by decide +kernel, rfl⟩
theorem cal4 : Callable Try.prog 4 := ⟨_, Try.func4, by decide +kernel, rfl⟩
theorem cal5 : Callable Try.prog 5 := ⟨_, Try.func5, by decide +kernel, rfl⟩
theorem cal6 : Callable Try.prog 6 := ⟨_, Try.func6, by decide +kernel, rfl⟩
theorem cal7 : Callable Try.prog 7 := ⟨_, Try.func7, by decide +kernel, rfl⟩
theorem cal8 : Callable Try.prog 8 := ⟨_, Try.func8, by decide +kernel, rfl⟩
theorem cal9 : Callable Try.prog 9 := ⟨_, Try.func9, by decide +kernel, rfl⟩
theorem cal10 : Callable Try.prog 10 := ⟨_, Try.func10, by decide +kernel, rfl⟩
theorem cal11 : Callable Try.prog 11 := ⟨_, Try.func11, by decide +kernel, rfl⟩
theorem cal12 : Callable Try.prog 12 := ⟨_, Try.func12, by decide +kernel, rfl⟩
theorem cal13 : Callable Try.prog 13 := ⟨_, Try.func13, by decide +kernel, rfl⟩
theorem cal14 : Callable Try.prog 14 := ⟨_, Try.func14, by decide +kernel, rfl⟩
theorem cal15 : Callable Try.prog 15 := ⟨_, Try.func15, by decide +kernel, rfl⟩
theorem cal16 : Callable Try.prog 16 := ⟨_, Try.func16, by decide +kernel, rfl⟩
theorem cal17 : Callable Try.prog 17 := ⟨_, Try.func17, by decide +kernel, rfl⟩
theorem cal18 : Callable Try.prog 18 := ⟨_, Try.func18, by decide +kernel, rfl⟩
theorem cal19 : Callable Try.prog 19 := ⟨_, Try.func19, by decide +kernel, rfl⟩
theorem cal20 : Callable Try.prog 20 := ⟨_, Try.func20, by decide +kernel, rfl⟩
theorem cal21 : Callable Try.prog 21 := ⟨_, Try.func21, by decide +kernel, rfl⟩
theorem cal22 : Callable Try.prog 22 := ⟨_, Try.func22, by decide +kernel, rfl⟩
theorem cal23 : Callable Try.prog 23 := ⟨_, Try.func23, by decide +kernel, rfl⟩
theorem cal24 : Callable Try.prog 24 := ⟨_, Try.func24, by decide +kernel, rfl⟩
theorem cal25 : Callable Try.prog 25 := ⟨_, Try.func25, by decide +kernel, rfl⟩
theorem cal26 : Callable Try.prog 26 := ⟨_, Try.func26, by decide +kernel, rfl⟩
theorem cal27 : Callable Try.prog 27 := ⟨_, Try.func27, by decide +kernel, rfl⟩
theorem cal28 : Callable Try.prog 28 := ⟨_, Try.func28, by decide +kernel, rfl⟩
theorem cal29 : Callable Try.prog 29 := ⟨_, Try.func29, by decide +kernel, rfl⟩
theorem cal30 : Callable Try.prog 30 := ⟨_, Try.func30, by decide +kernel, rfl⟩
theorem cal31 : Callable Try.prog 31 := ⟨_, Try.func31, by decide +kernel, rfl⟩
theorem cal32 : Callable Try.prog 32 := ⟨_, Try.func32, by decide +kernel, rfl⟩
theorem cal33 : Callable Try.prog 33 := ⟨_, Try.func33, by decide +kernel, rfl⟩
theorem cal34 : Callable Try.prog 34 := ⟨_, Try.func34, by decide +kernel, rfl⟩
theorem cal35 : Callable Try.prog 35 := ⟨_, Try.func35, by decide +kernel, rfl⟩
theorem cal36 : Callable Try.prog 36 := ⟨_, Try.func36, by decide +kernel, rfl⟩
theorem cal37 : Callable Try.prog 37 := ⟨_, Try.func37, by decide +kernel, rfl⟩
theorem cal38 : Callable Try.prog 38 := ⟨_, Try.func38, by decide +kernel, rfl⟩
theorem cal39 : Callable Try.prog 39 := ⟨_, Try.func39, by decide +kernel, rfl⟩
theorem cal40 : Callable Try.prog 40 := ⟨_, Try.func40, by decide +kernel, rfl⟩
theorem cal41 : Callable Try.prog 41 := ⟨_, Try.func41, by decide +kernel, rfl⟩
theorem cal42 : Callable Try.prog 42 := ⟨_, Try.func42, by decide +kernel, rfl⟩
theorem cal43 : Callable Try.prog 43 := ⟨_, Try.func43, by decide +kernel, rfl⟩
theorem cal44 : Callable Try.prog 44 := ⟨_, Try.func44, by decide +kernel, rfl⟩
theorem cal45 : Callable Try.prog 45 := ⟨_, Try.func45, by decide +kernel, rfl⟩
theorem cal46 : Callable Try.prog 46 := ⟨_, Try.func46, by decide +kernel, rfl⟩
theorem cal47 : Callable Try.prog 47 := ⟨_, Try.func47, by decide +kernel, rfl⟩
theorem cal48 : Callable Try.prog 48 := ⟨_, Try.func48, by decide +kernel, rfl⟩
theorem cal49 : Callable Try.prog 49 := ⟨_, Try.func49, by decide +kernel, rfl⟩
theorem cal50 : Callable Try.prog 50 := ⟨_, Try.func50, by decide +kernel, rfl⟩
theorem cal51 : Callable Try.prog 51 := ⟨_, Try.func51, by decide +kernel, rfl⟩
theorem cal52 : Callable Try.prog 52 := ⟨_, Try.func52, by decide +kernel, rfl⟩
theorem cal53 : Callable Try.prog 53 := ⟨_, Try.func53, by decide +kernel, rfl⟩
theorem cal54 : Callable Try.prog 54 := ⟨_, Try.func54, by decide +kernel, rfl⟩
theorem cal55 : Callable Try.prog 55 := ⟨_, Try.func55, by decide +kernel, rfl⟩
theorem cal56 : Callable Try.prog 56 := ⟨_, Try.func56, by decide +kernel, rfl⟩
theorem cal57 : Callable Try.prog 57 := ⟨_, Try.func57, by decide +kernel, rfl⟩
theorem cal58 : Callable Try.prog 58 := ⟨_, Try.func58, by decide +kernel, rfl⟩
theorem cal59 : Callable Try.prog 59 := ⟨_, Try.func59, by decide +kernel, rfl⟩
theorem cal60 : Callable Try.prog 60 := ⟨_, Try.func60, by decide +kernel, rfl⟩
theorem cal61 : Callable Try.prog 61 := ⟨_, Try.func61, by decide +kernel, rfl⟩
theorem cal63 : Callable Try.prog 63 := ⟨_, Try.func63, by decide +kernel, rfl⟩
theorem cal64 : Callable Try.prog 64 := ⟨_, Try.func64, by decide +kernel, rfl⟩
theorem cal65 : Callable Try.prog 65 := ⟨_, Try.func65, by decide +kernel, rfl⟩
theorem cal67 : Callable Try.prog 67 := ⟨_, Try.func67, by decide +kernel, rfl⟩
theorem cal68 : Callable Try.prog 68 := ⟨_, Try.func68, by decide +kernel, rfl⟩
theorem cal69 : Callable Try.prog 69 := ⟨_, Try.func69, by decide +kernel, rfl⟩
theorem cal70 : Callable Try.prog 70 := ⟨_, Try.func70, by decide +kernel, rfl⟩
theorem cal71 : Callable Try.prog 71 := ⟨_, Try.func71, by decide +kernel, rfl⟩
theorem cal72 : Callable Try.prog 72 := ⟨_, Try.func72, by decide +kernel, rfl⟩
theorem cal73 : Callable Try.prog 73 := ⟨_, Try.func73, by decide +kernel, rfl⟩
theorem mixed : Try.prog.follows .mixedOrders = true := by kernel_rfl
end Go.Proofs.Ytbhefogimhlkmaa.Pv
