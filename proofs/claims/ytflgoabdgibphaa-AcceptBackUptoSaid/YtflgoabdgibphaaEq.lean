/- Structs of this seat may be compared. -/
import Derived.Test.YtflgoabdgibphaaTy
import Derived.Test.YtflgoabdgibphaaPvM2
import Derived.KernelRfl
namespace Go.Proofs.Ytflgoabdgibphaa.Pv
open Go
def okl : List Nat := [29]
theorem eqok : eqOKb Try.prog okl = true := by kernel_rfl
end Go.Proofs.Ytflgoabdgibphaa.Pv
