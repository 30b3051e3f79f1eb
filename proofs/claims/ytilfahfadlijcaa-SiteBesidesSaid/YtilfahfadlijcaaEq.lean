/- Structs of this seat may be compared. -/
import Derived.Test.YtilfahfadlijcaaTy
import Derived.Test.YtilfahfadlijcaaPvZh
import Derived.KernelRfl
namespace Go.Proofs.Ytilfahfadlijcaa.Pv
open Go
def okl : List Nat := [44]
theorem eqok : eqOKb Try.prog okl = true := by kernel_rfl
end Go.Proofs.Ytilfahfadlijcaa.Pv
