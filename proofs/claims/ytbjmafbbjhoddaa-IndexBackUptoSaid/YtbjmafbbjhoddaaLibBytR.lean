/- A command's bytes, by the document. -/
import Derived.Test.YtbjmafbbjhoddaaLibBytI
import Derived.Test.YtbjmafbbjhoddaaLibBack
namespace Go.Proofs.Ytbjmafbbjhoddaa.Pv
open Go
set_option linter.unusedVariables false
set_option linter.unusedSimpArgs false
set_option maxRecDepth 100000

theorem cmS0_eq (c : Cm) : cmS c 0 = numB c.kind.toNat ++ numB c.client.toNat ++ numB c.seq.toNat ++ textB c.name ++ numB c.vol.toNat ++ numB c.off.toNat ++ numB c.n.toNat ++ numB c.sum.toNat ++ numB c.region.toNat ++ numB c.mate.toNat ++ numB c.idx.toNat ++ numB c.places.length := by
  simp only [cmS, List.take_zero, List.foldl_nil, cmN, cmH, numsTo, List.foldl_cons, app_nilB, Int.toNat_natCast]

end Go.Proofs.Ytbjmafbbjhoddaa.Pv
