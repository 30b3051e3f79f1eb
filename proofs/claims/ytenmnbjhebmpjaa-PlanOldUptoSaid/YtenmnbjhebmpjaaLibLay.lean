/- Contents laid out of parts. -/
import Derived.Test.YtenmnbjhebmpjaaTy
import Derived.Test.YtenmnbjhebmpjaaEq
import Derived.Test.YtenmnbjhebmpjaaPvM3
namespace Go.Proofs.Ytenmnbjhebmpjaa.Pv
open Go
set_option linter.unusedVariables false
set_option linter.unusedSimpArgs false
set_option maxRecDepth 100000

end Go.Proofs.Ytenmnbjhebmpjaa.Pv
