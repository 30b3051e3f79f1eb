/- Structs of this seat may be compared. -/
import Derived.Test.YtecleclpakiocaaTy
import Derived.Test.YtecleclpakiocaaPvZh
import Derived.KernelRfl
namespace Go.Proofs.Ytecleclpakiocaa.Pv
open Go
def okl : List Nat := []
theorem eqok : eqOKb Try.prog okl = true := by kernel_rfl
end Go.Proofs.Ytecleclpakiocaa.Pv
