/- IndexVols: for what comes in. -/
import Derived.Test.YtbjmafbbjhoddaaLibIdxDec
import Derived.Test.YtbjmafbbjhoddaaIdxD
namespace Go.Proofs.Ytbjmafbbjhoddaa.Pv
open Go
set_option linter.unusedVariables false
set_option maxRecDepth 100000

theorem indexVolsUpto_law (c0 : List PV) (h0 : HasC (.sl 12 shCm) c0) (hw : (mkV (.sl 12 shCm) c0).wt ≤ 1048576) :
    SatCall Try.prog 5 [mkV (.sl 12 shCm) c0] [] fun r _ => r = .bool true := by
  obtain ⟨es, rfl, _, he⟩ := h0
  obtain ⟨l, rfl⟩ := dec_row cm dec_cm he
  obtain ⟨k1, k2⟩ := cms_of (l := l) (by simp only [mkV, PV.wt] at hw; omega)
  exact (vols15_sat l k1 k2 []).mono fun _ _ h => h.1

end Go.Proofs.Ytbjmafbbjhoddaa.Pv
