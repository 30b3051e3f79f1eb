/- Structs of this seat may be compared. -/
import Derived.Test.YtenmnbjhebmpjaaTy
import Derived.Test.YtenmnbjhebmpjaaPvM2
import Derived.KernelRfl
namespace Go.Proofs.Ytenmnbjhebmpjaa.Pv
open Go
def okl : List Nat := [32, 41]
theorem eqok : eqOKb Try.prog okl = true := by kernel_rfl
end Go.Proofs.Ytenmnbjhebmpjaa.Pv
