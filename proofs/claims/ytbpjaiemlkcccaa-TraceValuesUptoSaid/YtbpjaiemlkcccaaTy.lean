/- The types of this seat's program: shapes, sizes, zero values. -/
import Derived.Test.YtbpjaiemlkcccaaProg
import Derived.Test.YtbpjaiemlkcccaaPvM1
import Derived.KernelRfl
namespace Go.Proofs.Ytbpjaiemlkcccaa.Pv
open Go
set_option maxRecDepth 100000
def ti2 : TI := ⟨.int .i64, 1, 8, [.int .i64 0]⟩
theorem ty2 : TyOK Try.prog 2 ti2 := .mk' (z := .int .i64 0) Try.underlying2 (by kernel_rfl) rfl rfl
def ti3 : TI := ⟨.int .i64, 1, 8, [.int .i64 0]⟩
theorem ty3 : TyOK Try.prog 3 ti3 := .mk' (z := .int .i64 0) Try.underlying3 (by kernel_rfl) rfl rfl
def ti4 : TI := ⟨.bool, 1, 1, [.bool false]⟩
theorem ty4 : TyOK Try.prog 4 ti4 := .mk' (z := .bool false) Try.underlying4 (by kernel_rfl) rfl rfl
def ti5 : TI := ⟨.int .u8, 1, 1, [.int .u8 0]⟩
theorem ty5 : TyOK Try.prog 5 ti5 := .mk' (z := .int .u8 0) Try.underlying5 (by kernel_rfl) rfl rfl
def ti9 : TI := ⟨.string, 1, 16, [.str ByteArray.empty]⟩
theorem ty9 : TyOK Try.prog 9 ti9 := .mk' (z := .string ByteArray.empty) Try.underlying9 (by kernel_rfl) rfl rfl
def axm : TI := ⟨.int .u64, 1, 8, [.int .u64 0]⟩
theorem azu : TyOK Try.prog 12 axm := .mk' (z := .int .u64 0) Try.underlying12 (by kernel_rfl) rfl rfl
def awt : TI := ⟨.struct #[⟨"msg", 9, 0, false, "", "runtime", 0⟩, ⟨"addr", 12, 1, false, "", "runtime", 16⟩], 2, 24, [.str ByteArray.empty, .int .u64 0]⟩
theorem azx : TyOK Try.prog 13 awt := .mk' (z := .agg #[.string ByteArray.empty, .int .u64 0]) Try.underlying13 (by kernel_rfl) rfl rfl
def axf : TI := ⟨.int .i32, 1, 4, [.int .i32 0]⟩
theorem azt : TyOK Try.prog 21 axf := .mk' (z := .int .i32 0) Try.underlying21 (by kernel_rfl) rfl rfl
def av5 : TI := ⟨.slice 9, 1, 24, [.sl .sh 1 []]⟩
theorem az4 : TyOK Try.prog 22 av5 := .mk' (z := .slice none 0 0) Try.underlying22 (by kernel_rfl) rfl rfl
def axn : TI := ⟨.slice 77, 1, 24, [.sl .sh 9 []]⟩
theorem azn : TyOK Try.prog 24 axn := .mk' (z := .slice none 0 0) Try.underlying24 (by kernel_rfl) rfl rfl
def axw : TI := ⟨.slice 79, 1, 24, [.sl .sh 5 []]⟩
theorem a0m : TyOK Try.prog 25 axw := .mk' (z := .slice none 0 0) Try.underlying25 (by kernel_rfl) rfl rfl
def awy : TI := ⟨.slice 59, 1, 24, [.sl .sh 8 []]⟩
theorem azy : TyOK Try.prog 26 awy := .mk' (z := .slice none 0 0) Try.underlying26 (by kernel_rfl) rfl rfl
def aw2 : TI := ⟨.struct #[⟨"Vols", 24, 0, false, "", "", 0⟩, ⟨"Names", 25, 1, false, "", "", 24⟩, ⟨"Last", 26, 2, false, "", "", 48⟩], 3, 72, [.sl .sh 9 [], .sl .sh 5 [], .sl .sh 8 []]⟩
theorem azr : TyOK Try.prog 27 aw2 := .mk' (z := .agg #[.slice none 0 0, .slice none 0 0, .slice none 0 0]) Try.underlying27 (by kernel_rfl) rfl rfl
def axp : TI := ⟨.struct #[⟨"Vols", 24, 0, false, "", "", 0⟩, ⟨"Names", 25, 1, false, "", "", 24⟩, ⟨"Last", 26, 2, false, "", "", 48⟩], 3, 72, [.sl .sh 9 [], .sl .sh 5 [], .sl .sh 8 []]⟩
theorem az1 : TyOK Try.prog 28 axp := .mk' (z := .agg #[.slice none 0 0, .slice none 0 0, .slice none 0 0]) Try.underlying28 (by kernel_rfl) rfl rfl
def awr : TI := ⟨.slice 37, 1, 24, [.sl .sh 11 []]⟩
theorem az7 : TyOK Try.prog 29 awr := .mk' (z := .slice none 0 0) Try.underlying29 (by kernel_rfl) rfl rfl
def axa : TI := ⟨.int .i64, 1, 8, [.int .i64 0]⟩
theorem a0g : TyOK Try.prog 32 axa := .mk' (z := .int .i64 0) Try.underlying32 (by kernel_rfl) rfl rfl
def av9 : TI := ⟨.int .u32, 1, 4, [.int .u32 0]⟩
theorem az5 : TyOK Try.prog 33 av9 := .mk' (z := .int .u32 0) Try.underlying33 (by kernel_rfl) rfl rfl
def awk : TI := ⟨.struct #[⟨"Err", 32, 0, false, "", "", 0⟩, ⟨"Vol", 3, 1, false, "", "", 8⟩, ⟨"Off", 3, 2, false, "", "", 16⟩, ⟨"N", 3, 3, false, "", "", 24⟩, ⟨"Sum", 33, 4, false, "", "", 32⟩, ⟨"Found", 4, 5, false, "", "", 36⟩], 6, 40, [.int .i64 0, .int .i64 0, .int .i64 0, .int .i64 0, .int .u32 0, .bool false]⟩
theorem azw : TyOK Try.prog 34 awk := .mk' (z := .agg #[.int .i64 0, .int .i64 0, .int .i64 0, .int .i64 0, .int .u32 0, .bool false]) Try.underlying34 (by kernel_rfl) rfl rfl
def axk : TI := ⟨.struct #[⟨"Err", 32, 0, false, "", "", 0⟩, ⟨"Vol", 3, 1, false, "", "", 8⟩, ⟨"Off", 3, 2, false, "", "", 16⟩, ⟨"N", 3, 3, false, "", "", 24⟩, ⟨"Sum", 33, 4, false, "", "", 32⟩, ⟨"Found", 4, 5, false, "", "", 36⟩], 6, 40, [.int .i64 0, .int .i64 0, .int .i64 0, .int .i64 0, .int .u32 0, .bool false]⟩
theorem azl : TyOK Try.prog 35 axk := .mk' (z := .agg #[.int .i64 0, .int .i64 0, .int .i64 0, .int .i64 0, .int .u32 0, .bool false]) Try.underlying35 (by kernel_rfl) rfl rfl
def awq : TI := ⟨.struct #[⟨"At", 3, 0, false, "", "", 0⟩, ⟨"Client", 3, 1, false, "", "", 8⟩, ⟨"Seq", 3, 2, false, "", "", 16⟩, ⟨"Kind", 3, 3, false, "", "", 24⟩, ⟨"Name", 9, 4, false, "", "", 32⟩, ⟨"Reply", 35, 5, false, "", "", 48⟩], 11, 88, [.int .i64 0, .int .i64 0, .int .i64 0, .int .i64 0, .str ByteArray.empty, .int .i64 0, .int .i64 0, .int .i64 0, .int .i64 0, .int .u32 0, .bool false]⟩
theorem azs : TyOK Try.prog 36 awq := .mk' (z := .agg #[.int .i64 0, .int .i64 0, .int .i64 0, .int .i64 0, .string ByteArray.empty, .int .i64 0, .int .i64 0, .int .i64 0, .int .i64 0, .int .u32 0, .bool false]) Try.underlying36 (by kernel_rfl) rfl rfl
def av6 : TI := ⟨.struct #[⟨"At", 3, 0, false, "", "", 0⟩, ⟨"Client", 3, 1, false, "", "", 8⟩, ⟨"Seq", 3, 2, false, "", "", 16⟩, ⟨"Kind", 3, 3, false, "", "", 24⟩, ⟨"Name", 9, 4, false, "", "", 32⟩, ⟨"Reply", 35, 5, false, "", "", 48⟩], 11, 88, [.int .i64 0, .int .i64 0, .int .i64 0, .int .i64 0, .str ByteArray.empty, .int .i64 0, .int .i64 0, .int .i64 0, .int .i64 0, .int .u32 0, .bool false]⟩
theorem a0i : TyOK Try.prog 37 av6 := .mk' (z := .agg #[.int .i64 0, .int .i64 0, .int .i64 0, .int .i64 0, .string ByteArray.empty, .int .i64 0, .int .i64 0, .int .i64 0, .int .i64 0, .int .u32 0, .bool false]) Try.underlying37 (by kernel_rfl) rfl rfl
def av7 : TI := ⟨.slice 88, 1, 24, [.sl .sh 2 []]⟩
theorem a0l : TyOK Try.prog 45 av7 := .mk' (z := .slice none 0 0) Try.underlying45 (by kernel_rfl) rfl rfl
def axd : TI := ⟨.struct #[⟨"Kind", 3, 0, false, "", "", 0⟩, ⟨"Client", 3, 1, false, "", "", 8⟩, ⟨"Seq", 3, 2, false, "", "", 16⟩, ⟨"Name", 9, 3, false, "", "", 24⟩, ⟨"Vol", 3, 4, false, "", "", 40⟩, ⟨"Off", 3, 5, false, "", "", 48⟩, ⟨"N", 3, 6, false, "", "", 56⟩, ⟨"Sum", 33, 7, false, "", "", 64⟩, ⟨"Region", 3, 8, false, "", "", 72⟩, ⟨"Mate", 3, 9, false, "", "", 80⟩, ⟨"Idx", 3, 10, false, "", "", 88⟩, ⟨"Places", 45, 11, false, "", "", 96⟩], 12, 120, [.int .i64 0, .int .i64 0, .int .i64 0, .str ByteArray.empty, .int .i64 0, .int .i64 0, .int .i64 0, .int .u32 0, .int .i64 0, .int .i64 0, .int .i64 0, .sl .sh 2 []]⟩
theorem azo : TyOK Try.prog 46 axd := .mk' (z := .agg #[.int .i64 0, .int .i64 0, .int .i64 0, .string ByteArray.empty, .int .i64 0, .int .i64 0, .int .i64 0, .int .u32 0, .int .i64 0, .int .i64 0, .int .i64 0, .slice none 0 0]) Try.underlying46 (by kernel_rfl) rfl rfl
def ata : TI := ⟨.struct #[⟨"Kind", 3, 0, false, "", "", 0⟩, ⟨"Client", 3, 1, false, "", "", 8⟩, ⟨"Seq", 3, 2, false, "", "", 16⟩, ⟨"Name", 9, 3, false, "", "", 24⟩, ⟨"Vol", 3, 4, false, "", "", 40⟩, ⟨"Off", 3, 5, false, "", "", 48⟩, ⟨"N", 3, 6, false, "", "", 56⟩, ⟨"Sum", 33, 7, false, "", "", 64⟩, ⟨"Region", 3, 8, false, "", "", 72⟩, ⟨"Mate", 3, 9, false, "", "", 80⟩, ⟨"Idx", 3, 10, false, "", "", 88⟩, ⟨"Places", 45, 11, false, "", "", 96⟩], 12, 120, [.int .i64 0, .int .i64 0, .int .i64 0, .str ByteArray.empty, .int .i64 0, .int .i64 0, .int .i64 0, .int .u32 0, .int .i64 0, .int .i64 0, .int .i64 0, .sl .sh 2 []]⟩
theorem azp : TyOK Try.prog 47 ata := .mk' (z := .agg #[.int .i64 0, .int .i64 0, .int .i64 0, .string ByteArray.empty, .int .i64 0, .int .i64 0, .int .i64 0, .int .u32 0, .int .i64 0, .int .i64 0, .int .i64 0, .slice none 0 0]) Try.underlying47 (by kernel_rfl) rfl rfl
def aw4 : TI := ⟨.slice 95, 1, 24, [.sl .sh 3 []]⟩
theorem a0f : TyOK Try.prog 54 aw4 := .mk' (z := .slice none 0 0) Try.underlying54 (by kernel_rfl) rfl rfl
def axb : TI := ⟨.struct #[⟨"Facts", 29, 0, false, "", "", 0⟩, ⟨"Puts", 54, 1, false, "", "", 24⟩, ⟨"Name", 9, 2, false, "", "", 48⟩, ⟨"At", 3, 3, false, "", "", 64⟩], 4, 72, [.sl .sh 11 [], .sl .sh 3 [], .str ByteArray.empty, .int .i64 0]⟩
theorem az2 : TyOK Try.prog 55 axb := .mk' (z := .agg #[.slice none 0 0, .slice none 0 0, .string ByteArray.empty, .int .i64 0]) Try.underlying55 (by kernel_rfl) rfl rfl
def awn : TI := ⟨.struct #[⟨"Facts", 29, 0, false, "", "", 0⟩, ⟨"Puts", 54, 1, false, "", "", 24⟩, ⟨"Name", 9, 2, false, "", "", 48⟩, ⟨"At", 3, 3, false, "", "", 64⟩], 4, 72, [.sl .sh 11 [], .sl .sh 3 [], .str ByteArray.empty, .int .i64 0]⟩
theorem azq : TyOK Try.prog 56 awn := .mk' (z := .agg #[.slice none 0 0, .slice none 0 0, .string ByteArray.empty, .int .i64 0]) Try.underlying56 (by kernel_rfl) rfl rfl
def axe : TI := ⟨.struct #[⟨"Client", 3, 0, false, "", "", 0⟩, ⟨"Seq", 3, 1, false, "", "", 8⟩, ⟨"Reply", 35, 2, false, "", "", 16⟩], 8, 56, [.int .i64 0, .int .i64 0, .int .i64 0, .int .i64 0, .int .i64 0, .int .i64 0, .int .u32 0, .bool false]⟩
theorem a0b : TyOK Try.prog 58 axe := .mk' (z := .agg #[.int .i64 0, .int .i64 0, .int .i64 0, .int .i64 0, .int .i64 0, .int .i64 0, .int .u32 0, .bool false]) Try.underlying58 (by kernel_rfl) rfl rfl
def awv : TI := ⟨.struct #[⟨"Client", 3, 0, false, "", "", 0⟩, ⟨"Seq", 3, 1, false, "", "", 8⟩, ⟨"Reply", 35, 2, false, "", "", 16⟩], 8, 56, [.int .i64 0, .int .i64 0, .int .i64 0, .int .i64 0, .int .i64 0, .int .i64 0, .int .u32 0, .bool false]⟩
theorem a0a : TyOK Try.prog 59 awv := .mk' (z := .agg #[.int .i64 0, .int .i64 0, .int .i64 0, .int .i64 0, .int .i64 0, .int .i64 0, .int .u32 0, .bool false]) Try.underlying59 (by kernel_rfl) rfl rfl
def axc : TI := ⟨.struct #[⟨"Facts", 29, 0, false, "", "", 0⟩, ⟨"Puts", 54, 1, false, "", "", 24⟩, ⟨"Name", 9, 2, false, "", "", 48⟩, ⟨"At", 3, 3, false, "", "", 64⟩, ⟨"A", 59, 4, false, "", "", 72⟩, ⟨"B", 59, 12, false, "", "", 128⟩], 20, 184, [.sl .sh 11 [], .sl .sh 3 [], .str ByteArray.empty, .int .i64 0, .int .i64 0, .int .i64 0, .int .i64 0, .int .i64 0, .int .i64 0, .int .i64 0, .int .u32 0, .bool false, .int .i64 0, .int .i64 0, .int .i64 0, .int .i64 0, .int .i64 0, .int .i64 0, .int .u32 0, .bool false]⟩
theorem a0j : TyOK Try.prog 60 axc := .mk' (z := .agg #[.slice none 0 0, .slice none 0 0, .string ByteArray.empty, .int .i64 0, .int .i64 0, .int .i64 0, .int .i64 0, .int .i64 0, .int .i64 0, .int .i64 0, .int .u32 0, .bool false, .int .i64 0, .int .i64 0, .int .i64 0, .int .i64 0, .int .i64 0, .int .i64 0, .int .u32 0, .bool false]) Try.underlying60 (by kernel_rfl) rfl rfl
def awi : TI := ⟨.struct #[⟨"Facts", 29, 0, false, "", "", 0⟩, ⟨"Puts", 54, 1, false, "", "", 24⟩, ⟨"Name", 9, 2, false, "", "", 48⟩, ⟨"At", 3, 3, false, "", "", 64⟩, ⟨"A", 59, 4, false, "", "", 72⟩, ⟨"B", 59, 12, false, "", "", 128⟩], 20, 184, [.sl .sh 11 [], .sl .sh 3 [], .str ByteArray.empty, .int .i64 0, .int .i64 0, .int .i64 0, .int .i64 0, .int .i64 0, .int .i64 0, .int .i64 0, .int .u32 0, .bool false, .int .i64 0, .int .i64 0, .int .i64 0, .int .i64 0, .int .i64 0, .int .i64 0, .int .u32 0, .bool false]⟩
theorem az9 : TyOK Try.prog 61 awi := .mk' (z := .agg #[.slice none 0 0, .slice none 0 0, .string ByteArray.empty, .int .i64 0, .int .i64 0, .int .i64 0, .int .i64 0, .int .i64 0, .int .i64 0, .int .i64 0, .int .u32 0, .bool false, .int .i64 0, .int .i64 0, .int .i64 0, .int .i64 0, .int .i64 0, .int .i64 0, .int .u32 0, .bool false]) Try.underlying61 (by kernel_rfl) rfl rfl
def axg : TI := ⟨.slice 119, 1, 24, [.sl .sh 2 []]⟩
theorem a0e : TyOK Try.prog 75 axg := .mk' (z := .slice none 0 0) Try.underlying75 (by kernel_rfl) rfl rfl
def awo : TI := ⟨.struct #[⟨"Id", 3, 0, false, "", "", 0⟩, ⟨"Home", 3, 1, false, "", "", 8⟩, ⟨"Mate", 3, 2, false, "", "", 16⟩, ⟨"Used", 3, 3, false, "", "", 24⟩, ⟨"Phase", 3, 4, false, "", "", 32⟩, ⟨"Parts", 75, 5, false, "", "", 40⟩, ⟨"Places", 45, 6, false, "", "", 64⟩, ⟨"Pair", 3, 7, false, "", "", 88⟩, ⟨"Sum", 3, 8, false, "", "", 96⟩], 9, 104, [.int .i64 0, .int .i64 0, .int .i64 0, .int .i64 0, .int .i64 0, .sl .sh 2 [], .sl .sh 2 [], .int .i64 0, .int .i64 0]⟩
theorem azz : TyOK Try.prog 76 awo := .mk' (z := .agg #[.int .i64 0, .int .i64 0, .int .i64 0, .int .i64 0, .int .i64 0, .slice none 0 0, .slice none 0 0, .int .i64 0, .int .i64 0]) Try.underlying76 (by kernel_rfl) rfl rfl
def av8 : TI := ⟨.struct #[⟨"Id", 3, 0, false, "", "", 0⟩, ⟨"Home", 3, 1, false, "", "", 8⟩, ⟨"Mate", 3, 2, false, "", "", 16⟩, ⟨"Used", 3, 3, false, "", "", 24⟩, ⟨"Phase", 3, 4, false, "", "", 32⟩, ⟨"Parts", 75, 5, false, "", "", 40⟩, ⟨"Places", 45, 6, false, "", "", 64⟩, ⟨"Pair", 3, 7, false, "", "", 88⟩, ⟨"Sum", 3, 8, false, "", "", 96⟩], 9, 104, [.int .i64 0, .int .i64 0, .int .i64 0, .int .i64 0, .int .i64 0, .sl .sh 2 [], .sl .sh 2 [], .int .i64 0, .int .i64 0]⟩
theorem a0k : TyOK Try.prog 77 av8 := .mk' (z := .agg #[.int .i64 0, .int .i64 0, .int .i64 0, .int .i64 0, .int .i64 0, .slice none 0 0, .slice none 0 0, .int .i64 0, .int .i64 0]) Try.underlying77 (by kernel_rfl) rfl rfl
def awf : TI := ⟨.struct #[⟨"Name", 9, 0, false, "", "", 0⟩, ⟨"Vol", 3, 1, false, "", "", 16⟩, ⟨"Off", 3, 2, false, "", "", 24⟩, ⟨"N", 3, 3, false, "", "", 32⟩, ⟨"Sum", 33, 4, false, "", "", 40⟩], 5, 48, [.str ByteArray.empty, .int .i64 0, .int .i64 0, .int .i64 0, .int .u32 0]⟩
theorem az6 : TyOK Try.prog 78 awf := .mk' (z := .agg #[.string ByteArray.empty, .int .i64 0, .int .i64 0, .int .i64 0, .int .u32 0]) Try.underlying78 (by kernel_rfl) rfl rfl
def awm : TI := ⟨.struct #[⟨"Name", 9, 0, false, "", "", 0⟩, ⟨"Vol", 3, 1, false, "", "", 16⟩, ⟨"Off", 3, 2, false, "", "", 24⟩, ⟨"N", 3, 3, false, "", "", 32⟩, ⟨"Sum", 33, 4, false, "", "", 40⟩], 5, 48, [.str ByteArray.empty, .int .i64 0, .int .i64 0, .int .i64 0, .int .u32 0]⟩
theorem a0d : TyOK Try.prog 79 awm := .mk' (z := .agg #[.string ByteArray.empty, .int .i64 0, .int .i64 0, .int .i64 0, .int .u32 0]) Try.underlying79 (by kernel_rfl) rfl rfl
def axi : TI := ⟨.slice 3, 1, 24, [.sl .sh 1 []]⟩
theorem azm : TyOK Try.prog 82 axi := .mk' (z := .slice none 0 0) Try.underlying82 (by kernel_rfl) rfl rfl
def axq : TI := ⟨.struct #[⟨"Region", 3, 0, false, "", "", 0⟩, ⟨"Node", 3, 1, false, "", "", 8⟩], 2, 16, [.int .i64 0, .int .i64 0]⟩
theorem azv : TyOK Try.prog 87 axq := .mk' (z := .agg #[.int .i64 0, .int .i64 0]) Try.underlying87 (by kernel_rfl) rfl rfl
def awg : TI := ⟨.struct #[⟨"Region", 3, 0, false, "", "", 0⟩, ⟨"Node", 3, 1, false, "", "", 8⟩], 2, 16, [.int .i64 0, .int .i64 0]⟩
theorem a0h : TyOK Try.prog 88 awg := .mk' (z := .agg #[.int .i64 0, .int .i64 0]) Try.underlying88 (by kernel_rfl) rfl rfl
def axu : TI := ⟨.struct #[⟨"Client", 3, 0, false, "", "", 0⟩, ⟨"Seq", 3, 1, false, "", "", 8⟩, ⟨"Bytes", 9, 2, false, "", "", 16⟩], 3, 32, [.int .i64 0, .int .i64 0, .str ByteArray.empty]⟩
theorem az0 : TyOK Try.prog 94 axu := .mk' (z := .agg #[.int .i64 0, .int .i64 0, .string ByteArray.empty]) Try.underlying94 (by kernel_rfl) rfl rfl
def awj : TI := ⟨.struct #[⟨"Client", 3, 0, false, "", "", 0⟩, ⟨"Seq", 3, 1, false, "", "", 8⟩, ⟨"Bytes", 9, 2, false, "", "", 16⟩], 3, 32, [.int .i64 0, .int .i64 0, .str ByteArray.empty]⟩
theorem a0c : TyOK Try.prog 95 awj := .mk' (z := .agg #[.int .i64 0, .int .i64 0, .string ByteArray.empty]) Try.underlying95 (by kernel_rfl) rfl rfl
def aut : TI := ⟨.int .u64, 1, 8, [.int .u64 0]⟩
theorem aza : TyOK Try.prog 100 aut := .mk' (z := .int .u64 0) Try.underlying100 (by kernel_rfl) rfl rfl
def au2 : TI := ⟨.struct #[], 0, 0, []⟩
theorem azh : TyOK Try.prog 101 au2 := .mk' (z := .agg #[]) Try.underlying101 (by kernel_rfl) rfl rfl
def au1 : TI := ⟨.struct #[], 0, 0, []⟩
theorem ayz : TyOK Try.prog 102 au1 := .mk' (z := .agg #[]) Try.underlying102 (by kernel_rfl) rfl rfl
def auo : TI := ⟨.pointer 106, 1, 8, [.nilptr]⟩
theorem aye : TyOK Try.prog 104 auo := .mk' (z := .pointer none) Try.underlying104 (by kernel_rfl) rfl rfl
def auk : TI := ⟨.struct #[⟨"s", 9, 0, false, "", "hogshead/index", 0⟩], 1, 16, [.str ByteArray.empty]⟩
theorem ayr : TyOK Try.prog 105 auk := .mk' (z := .agg #[.string ByteArray.empty]) Try.underlying105 (by kernel_rfl) rfl rfl
def aug : TI := ⟨.struct #[⟨"s", 9, 0, false, "", "hogshead/index", 0⟩], 1, 16, [.str ByteArray.empty]⟩
theorem ayi : TyOK Try.prog 106 aug := .mk' (z := .agg #[.string ByteArray.empty]) Try.underlying106 (by kernel_rfl) rfl rfl
def aue : TI := ⟨.pointer 3, 1, 8, [.nilptr]⟩
theorem ayh : TyOK Try.prog 110 aue := .mk' (z := .pointer none) Try.underlying110 (by kernel_rfl) rfl rfl
def auz : TI := ⟨.slice 110, 1, 24, [.sl .sh 1 []]⟩
theorem ayx : TyOK Try.prog 111 auz := .mk' (z := .slice none 0 0) Try.underlying111 (by kernel_rfl) rfl rfl
def auj : TI := ⟨.struct #[⟨"Off", 3, 0, false, "", "", 0⟩, ⟨"N", 3, 1, false, "", "", 8⟩], 2, 16, [.int .i64 0, .int .i64 0]⟩
theorem ayt : TyOK Try.prog 118 auj := .mk' (z := .agg #[.int .i64 0, .int .i64 0]) Try.underlying118 (by kernel_rfl) rfl rfl
def aum : TI := ⟨.struct #[⟨"Off", 3, 0, false, "", "", 0⟩, ⟨"N", 3, 1, false, "", "", 8⟩], 2, 16, [.int .i64 0, .int .i64 0]⟩
theorem ax0 : TyOK Try.prog 119 aum := .mk' (z := .agg #[.int .i64 0, .int .i64 0]) Try.underlying119 (by kernel_rfl) rfl rfl
def aup : TI := ⟨.slice 5, 1, 24, [.sl .sh 1 []]⟩
theorem ayq : TyOK Try.prog 123 aup := .mk' (z := .slice none 0 0) Try.underlying123 (by kernel_rfl) rfl rfl
def auh : TI := ⟨.int .u64, 1, 8, [.int .u64 0]⟩
theorem azg : TyOK Try.prog 135 auh := .mk' (z := .int .u64 0) Try.underlying135 (by kernel_rfl) rfl rfl
def aur : TI := ⟨.array 0 16, 0, 0, []⟩
theorem ayd : TyOK Try.prog 169 aur := .mk' (z := .agg #[]) Try.underlying169 (by kernel_rfl) rfl rfl
def auv : TI := ⟨.struct #[⟨"_", 169, 0, false, "", "runtime", 0⟩], 0, 0, []⟩
theorem ay5 : TyOK Try.prog 170 auv := .mk' (z := .agg #[]) Try.underlying170 (by kernel_rfl) rfl rfl
def aud : TI := ⟨.pointer 5, 1, 8, [.nilptr]⟩
theorem ax7 : TyOK Try.prog 176 aud := .mk' (z := .pointer none) Try.underlying176 (by kernel_rfl) rfl rfl
def tt : TT := [(2, ti2), (3, ti3), (4, ti4), (5, ti5), (9, ti9), (12, axm), (13, awt), (21, axf), (22, av5), (24, axn), (25, axw), (26, awy), (27, aw2), (28, axp), (29, awr), (32, axa), (33, av9), (34, awk), (35, axk), (36, awq), (37, av6), (45, av7), (46, axd), (47, ata), (54, aw4), (55, axb), (56, awn), (58, axe), (59, awv), (60, axc), (61, awi), (75, axg), (76, awo), (77, av8), (78, awf), (79, awm), (82, axi), (87, axq), (88, awg), (94, axu), (95, awj), (100, aut), (101, au2), (102, au1), (104, auo), (105, auk), (106, aug), (110, aue), (111, auz), (118, auj), (119, aum), (123, aup), (135, auh), (169, aur), (170, auv), (176, aud)]
theorem tab : oq Try.prog tt := (.cons ty2 (.cons ty3 (.cons ty4 (.cons ty5 (.cons ty9 (.cons azu (.cons azx (.cons azt (.cons az4 (.cons azn (.cons a0m (.cons azy (.cons azr (.cons az1 (.cons az7 (.cons a0g (.cons az5 (.cons azw (.cons azl (.cons azs (.cons a0i (.cons a0l (.cons azo (.cons azp (.cons a0f (.cons az2 (.cons azq (.cons a0b (.cons a0a (.cons a0j (.cons az9 (.cons a0e (.cons azz (.cons a0k (.cons az6 (.cons a0d (.cons azm (.cons azv (.cons a0h (.cons az0 (.cons a0c (.cons aza (.cons azh (.cons ayz (.cons aye (.cons ayr (.cons ayi (.cons ayh (.cons ayx (.cons ayt (.cons ax0 (.cons ayq (.cons azg (.cons ayd (.cons ay5 (.cons ax7 (oq.nil _)))))))))))))))))))))))))))))))))))))))))))))))))))))))))
theorem a1a : jd Try.prog 2 := ⟨_, Try.func2, by decide +kernel, rfl⟩
theorem a07 : jd Try.prog 3 := ⟨_, Try.func3, by decide +kernel, rfl⟩
theorem a08 : jd Try.prog 4 := ⟨_, Try.func4, by decide +kernel, rfl⟩
theorem a1c : jd Try.prog 5 := ⟨_, Try.func5, by decide +kernel, rfl⟩
theorem a1b : jd Try.prog 6 := ⟨_, Try.func6, by decide +kernel, rfl⟩
theorem a09 : jd Try.prog 7 := ⟨_, Try.func7, by decide +kernel, rfl⟩
theorem a1d : jd Try.prog 8 := ⟨_, Try.func8, by decide +kernel, rfl⟩
theorem ao1 : jd Try.prog 9 := ⟨_, Try.func9, by decide +kernel, rfl⟩
theorem alk : jd Try.prog 10 := ⟨_, Try.func10, by decide +kernel, rfl⟩
theorem ax9 : jd Try.prog 11 := ⟨_, Try.func11, by decide +kernel, rfl⟩
theorem a0q : jd Try.prog 12 := ⟨_, Try.func12, by decide +kernel, rfl⟩
theorem a0u : jd Try.prog 13 := ⟨_, Try.func13, by decide +kernel, rfl⟩
theorem auf : jd Try.prog 14 := ⟨_, Try.func14, by decide +kernel, rfl⟩
theorem aus : jd Try.prog 15 := ⟨_, Try.func15, by decide +kernel, rfl⟩
theorem a0z : jd Try.prog 16 := ⟨_, Try.func16, by decide +kernel, rfl⟩
theorem ajv : jd Try.prog 17 := ⟨_, Try.func17, by decide +kernel, rfl⟩
theorem a05 : jd Try.prog 18 := ⟨_, Try.func18, by decide +kernel, rfl⟩
theorem ay7 : jd Try.prog 19 := ⟨_, Try.func19, by decide +kernel, rfl⟩
theorem azj : jd Try.prog 20 := ⟨_, Try.func20, by decide +kernel, rfl⟩
theorem ay8 : jd Try.prog 21 := ⟨_, Try.func21, by decide +kernel, rfl⟩
theorem ayy : jd Try.prog 22 := ⟨_, Try.func22, by decide +kernel, rfl⟩
theorem ahd : jd Try.prog 23 := ⟨_, Try.func23, by decide +kernel, rfl⟩
theorem aei : jd Try.prog 24 := ⟨_, Try.func24, by decide +kernel, rfl⟩
theorem ajp : jd Try.prog 25 := ⟨_, Try.func25, by decide +kernel, rfl⟩
theorem a0r : jd Try.prog 26 := ⟨_, Try.func26, by decide +kernel, rfl⟩
theorem a03 : jd Try.prog 27 := ⟨_, Try.func27, by decide +kernel, rfl⟩
theorem a0x : jd Try.prog 28 := ⟨_, Try.func28, by decide +kernel, rfl⟩
theorem ay4 : jd Try.prog 29 := ⟨_, Try.func29, by decide +kernel, rfl⟩
theorem ay1 : jd Try.prog 30 := ⟨_, Try.func30, by decide +kernel, rfl⟩
theorem xn : jd Try.prog 31 := ⟨_, Try.func31, by decide +kernel, rfl⟩
theorem aem : jd Try.prog 32 := ⟨_, Try.func32, by decide +kernel, rfl⟩
theorem aah : jd Try.prog 33 := ⟨_, Try.func33, by decide +kernel, rfl⟩
theorem ay2 : jd Try.prog 34 := ⟨_, Try.func34, by decide +kernel, rfl⟩
theorem auc : jd Try.prog 35 := ⟨_, Try.func35, by decide +kernel, rfl⟩
theorem aul : jd Try.prog 36 := ⟨_, Try.func36, by decide +kernel, rfl⟩
theorem adb : jd Try.prog 37 := ⟨_, Try.func37, by decide +kernel, rfl⟩
theorem ayf : jd Try.prog 38 := ⟨_, Try.func38, by decide +kernel, rfl⟩
theorem apw : jd Try.prog 39 := ⟨_, Try.func39, by decide +kernel, rfl⟩
theorem ax4 : jd Try.prog 40 := ⟨_, Try.func40, by decide +kernel, rfl⟩
theorem azc : jd Try.prog 41 := ⟨_, Try.func41, by decide +kernel, rfl⟩
theorem aun : jd Try.prog 42 := ⟨_, Try.func42, by decide +kernel, rfl⟩
theorem afy : jd Try.prog 43 := ⟨_, Try.func43, by decide +kernel, rfl⟩
theorem aph : jd Try.prog 44 := ⟨_, Try.func44, by decide +kernel, rfl⟩
theorem ays : jd Try.prog 45 := ⟨_, Try.func45, by decide +kernel, rfl⟩
theorem u6 : jd Try.prog 46 := ⟨_, Try.func46, by decide +kernel, rfl⟩
theorem axz : jd Try.prog 47 := ⟨_, Try.func47, by decide +kernel, rfl⟩
theorem a0y : jd Try.prog 48 := ⟨_, Try.func48, by decide +kernel, rfl⟩
theorem a0s : jd Try.prog 49 := ⟨_, Try.func49, by decide +kernel, rfl⟩
theorem a0t : jd Try.prog 50 := ⟨_, Try.func50, by decide +kernel, rfl⟩
theorem apm : jd Try.prog 51 := ⟨_, Try.func51, by decide +kernel, rfl⟩
theorem af8 : jd Try.prog 52 := ⟨_, Try.func52, by decide +kernel, rfl⟩
theorem ayu : jd Try.prog 53 := ⟨_, Try.func53, by decide +kernel, rfl⟩
theorem ags : jd Try.prog 54 := ⟨_, Try.func54, by decide +kernel, rfl⟩
theorem ax5 : jd Try.prog 55 := ⟨_, Try.func55, by decide +kernel, rfl⟩
theorem ax2 : jd Try.prog 56 := ⟨_, Try.func56, by decide +kernel, rfl⟩
theorem ax1 : jd Try.prog 57 := ⟨_, Try.func57, by decide +kernel, rfl⟩
theorem auu : jd Try.prog 58 := ⟨_, Try.func58, by decide +kernel, rfl⟩
theorem auw : jd Try.prog 59 := ⟨_, Try.func59, by decide +kernel, rfl⟩
theorem ayp : jd Try.prog 60 := ⟨_, Try.func60, by decide +kernel, rfl⟩
theorem apq : jd Try.prog 61 := ⟨_, Try.func61, by decide +kernel, rfl⟩
theorem auy : jd Try.prog 62 := ⟨_, Try.func62, by decide +kernel, rfl⟩
theorem au0 : jd Try.prog 63 := ⟨_, Try.func63, by decide +kernel, rfl⟩
theorem a02 : jd Try.prog 64 := ⟨_, Try.func64, by decide +kernel, rfl⟩
theorem a0w : jd Try.prog 65 := ⟨_, Try.func65, by decide +kernel, rfl⟩
theorem a00 : jd Try.prog 66 := ⟨_, Try.func66, by decide +kernel, rfl⟩
theorem a04 : jd Try.prog 67 := ⟨_, Try.func67, by decide +kernel, rfl⟩
theorem a06 : jd Try.prog 68 := ⟨_, Try.func68, by decide +kernel, rfl⟩
theorem a01 : jd Try.prog 69 := ⟨_, Try.func69, by decide +kernel, rfl⟩
theorem a0v : jd Try.prog 70 := ⟨_, Try.func70, by decide +kernel, rfl⟩
theorem ayw : jd Try.prog 71 := ⟨_, Try.func71, by decide +kernel, rfl⟩
theorem azi : jd Try.prog 72 := ⟨_, Try.func72, by decide +kernel, rfl⟩
theorem ax6 : jd Try.prog 73 := ⟨_, Try.func73, by decide +kernel, rfl⟩
theorem ay3 : jd Try.prog 74 := ⟨_, Try.func74, by decide +kernel, rfl⟩
theorem azf : jd Try.prog 75 := ⟨_, Try.func75, by decide +kernel, rfl⟩
theorem aya : jd Try.prog 76 := ⟨_, Try.func76, by decide +kernel, rfl⟩
theorem aze : jd Try.prog 77 := ⟨_, Try.func77, by decide +kernel, rfl⟩
theorem ax8 : jd Try.prog 78 := ⟨_, Try.func78, by decide +kernel, rfl⟩
theorem ay6 : jd Try.prog 79 := ⟨_, Try.func79, by decide +kernel, rfl⟩
theorem azd : jd Try.prog 80 := ⟨_, Try.func80, by decide +kernel, rfl⟩
theorem ay9 : jd Try.prog 81 := ⟨_, Try.func81, by decide +kernel, rfl⟩
theorem aui : jd Try.prog 82 := ⟨_, Try.func82, by decide +kernel, rfl⟩
theorem aek : jd Try.prog 83 := ⟨_, Try.func83, by decide +kernel, rfl⟩
theorem ad4 : jd Try.prog 84 := ⟨_, Try.func84, by decide +kernel, rfl⟩
theorem tu : jd Try.prog 85 := ⟨_, Try.func85, by decide +kernel, rfl⟩
theorem acz : jd Try.prog 86 := ⟨_, Try.func86, by decide +kernel, rfl⟩
theorem apj : jd Try.prog 87 := ⟨_, Try.func87, by decide +kernel, rfl⟩
theorem ayn : jd Try.prog 88 := ⟨_, Try.func88, by decide +kernel, rfl⟩
theorem apg : jd Try.prog 89 := ⟨_, Try.func89, by decide +kernel, rfl⟩
theorem aux : jd Try.prog 90 := ⟨_, Try.func90, by decide +kernel, rfl⟩
theorem ao5 : jd Try.prog 91 := ⟨_, Try.func91, by decide +kernel, rfl⟩
theorem aik : jd Try.prog 92 := ⟨_, Try.func92, by decide +kernel, rfl⟩
theorem ayg : jd Try.prog 93 := ⟨_, Try.func93, by decide +kernel, rfl⟩
theorem ajz : jd Try.prog 94 := ⟨_, Try.func94, by decide +kernel, rfl⟩
theorem alj : jd Try.prog 95 := ⟨_, Try.func95, by decide +kernel, rfl⟩
theorem ayl : jd Try.prog 96 := ⟨_, Try.func96, by decide +kernel, rfl⟩
theorem azk : jd Try.prog 97 := ⟨_, Try.func97, by decide +kernel, rfl⟩
theorem auq : jd Try.prog 98 := ⟨_, Try.func98, by decide +kernel, rfl⟩
theorem ayk : jd Try.prog 99 := ⟨_, Try.func99, by decide +kernel, rfl⟩
theorem aw8 : jd Try.prog 100 := ⟨_, Try.func100, by decide +kernel, rfl⟩
theorem axv : jd Try.prog 101 := ⟨_, Try.func101, by decide +kernel, rfl⟩
theorem aq4 : jd Try.prog 102 := ⟨_, Try.func102, by decide +kernel, rfl⟩
theorem awz : jd Try.prog 103 := ⟨_, Try.func103, by decide +kernel, rfl⟩
theorem a0p : jd Try.prog 105 := ⟨_, Try.func105, by decide +kernel, rfl⟩
theorem awe : jd Try.prog 106 := ⟨_, Try.func106, by decide +kernel, rfl⟩
theorem arz : jd Try.prog 107 := ⟨_, Try.func107, by decide +kernel, rfl⟩
theorem aws : jd Try.prog 108 := ⟨_, Try.func108, by decide +kernel, rfl⟩
theorem a0o : jd Try.prog 109 := ⟨_, Try.func109, by decide +kernel, rfl⟩
theorem a0n : jd Try.prog 110 := ⟨_, Try.func110, by decide +kernel, rfl⟩
theorem mixed : Try.prog.follows .mixedOrders = true := by kernel_rfl
end Go.Proofs.Ytbpjaiemlkcccaa.Pv
