/- Votes taken, by the document. -/
import Derived.Test.YtflgoabdgibphaaAccE
namespace Go.Proofs.Ytflgoabdgibphaa.Pv
open Go
set_option linter.unusedVariables false
set_option linter.unusedSimpArgs false
set_option maxRecDepth 100000

end Go.Proofs.Ytflgoabdgibphaa.Pv
