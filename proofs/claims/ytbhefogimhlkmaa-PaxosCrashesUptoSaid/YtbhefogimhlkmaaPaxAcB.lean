/- Rows of votes: one put in between. -/
import Derived.Test.YtbhefogimhlkmaaPaxAcA
namespace Go.Proofs.Ytbhefogimhlkmaa.Pv
open Go
set_option linter.unusedVariables false
set_option linter.unusedSimpArgs false
set_option maxRecDepth 100000


end Go.Proofs.Ytbhefogimhlkmaa.Pv
