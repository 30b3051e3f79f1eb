/- Structs of this seat may be compared. -/
import Derived.Test.YtbjmafbbjhoddaaTy
import Derived.Test.YtbjmafbbjhoddaaPvM2
import Derived.KernelRfl
namespace Go.Proofs.Ytbjmafbbjhoddaa.Pv
open Go
def okl : List Nat := [35, 39, 47, 54, 57]
theorem eqok : eqOKb Try.prog okl = true := by kernel_rfl
end Go.Proofs.Ytbjmafbbjhoddaa.Pv
