/- Votes: which may be; rows of them, copied and searched. -/
import Derived.Test.YtbhefogimhlkmaaEq
import Derived.Test.YtbhefogimhlkmaaPvM3
namespace Go.Proofs.Ytbhefogimhlkmaa.Pv
open Go
set_option linter.unusedVariables false
set_option linter.unusedSimpArgs false
set_option maxRecDepth 100000

abbrev Vt := Int × Int × ByteArray
def vt (v : Vt) : PV := .agg [.int .i64 v.1, .int .u64 v.2.1, .str v.2.2]
end Go.Proofs.Ytbhefogimhlkmaa.Pv
