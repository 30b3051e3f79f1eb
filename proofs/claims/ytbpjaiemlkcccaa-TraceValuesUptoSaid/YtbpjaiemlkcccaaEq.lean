
/- Structs of this seat may be compared. -/
import Derived.Test.YtbpjaiemlkcccaaTy
import Derived.Test.YtbpjaiemlkcccaaPvM2
import Derived.KernelRfl
namespace Go.Proofs.Ytbpjaiemlkcccaa.Pv
open Go
def okl : List Nat := [35, 37, 59, 79, 88, 119]
theorem jk : aj4 Try.prog okl = true := by kernel_rfl
end Go.Proofs.Ytbpjaiemlkcccaa.Pv
