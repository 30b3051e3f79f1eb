/- IndexTwice: for what comes in. -/
import Derived.Test.YtbjmafbbjhoddaaLibIdxDec
import Derived.Test.YtbjmafbbjhoddaaIdxE
namespace Go.Proofs.Ytbjmafbbjhoddaa.Pv
open Go
set_option linter.unusedVariables false
set_option maxRecDepth 100000

theorem indexTwiceUpto_law (c0 : List PV) (h0 : HasC shIx c0) (c1 : List PV) (h1 : HasC shCm c1) (hw : (mkV shIx c0).wt + (mkV shCm c1).wt ≤ 1048576) :
    SatCall Try.prog 3 [mkV shIx c0, mkV shCm c1] [] fun r _ => r = .bool true := by
  obtain ⟨x, e, _⟩ := dec_ix c0 h0
  obtain ⟨c, e2, _⟩ := dec_cm c1 h1
  rw [e, e2] at hw ⊢
  exact (twice_sat x c (okB_of (by omega)) (cm_of (by omega)) []).mono fun _ _ h => h.1

end Go.Proofs.Ytbjmafbbjhoddaa.Pv
