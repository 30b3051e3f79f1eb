/- IndexRises: for what comes in. -/
import Derived.Test.YtbjmafbbjhoddaaLibIdxDec
import Derived.Test.YtbjmafbbjhoddaaIdxB
namespace Go.Proofs.Ytbjmafbbjhoddaa.Pv
open Go
set_option linter.unusedVariables false
set_option maxRecDepth 100000

theorem indexRisesUpto_law (c0 : List PV) (h0 : HasC (.sl 12 shCm) c0) (c1 : List PV) (h1 : HasC (.sl 12 shCm) c1) (hw : (mkV (.sl 12 shCm) c0).wt + (mkV (.sl 12 shCm) c1).wt ≤ 1048576) :
    SatCall Try.prog 6 [mkV (.sl 12 shCm) c0, mkV (.sl 12 shCm) c1] [] fun r _ => r = .bool true := by
  obtain ⟨es, rfl, _, he⟩ := h0
  obtain ⟨l, rfl⟩ := dec_row cm dec_cm he
  obtain ⟨fs, rfl, _, hf⟩ := h1
  obtain ⟨m, rfl⟩ := dec_row cm dec_cm hf
  simp only [mkV, PV.wt] at hw
  obtain ⟨k1, k2⟩ := cms_of (l := l) (by omega)
  obtain ⟨k3, k4⟩ := cms_of (l := m) (by omega)
  exact (rises_sat l m k1 k2 k3 k4 []).mono fun _ _ h => h.1

end Go.Proofs.Ytbjmafbbjhoddaa.Pv
