/- Structs of this seat may be compared. -/
import Derived.Test.YtbhefogimhlkmaaTy
import Derived.Test.YtbhefogimhlkmaaPvM2
import Derived.KernelRfl
namespace Go.Proofs.Ytbhefogimhlkmaa.Pv
open Go
def okl : List Nat := [44, 52, 59]
theorem eqok : eqOKb Try.prog okl = true := by kernel_rfl
end Go.Proofs.Ytbhefogimhlkmaa.Pv
