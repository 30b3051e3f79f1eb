/- IndexFinds: for what comes in. -/
import Derived.Test.YtbjmafbbjhoddaaLibIdxDec
import Derived.Test.YtbjmafbbjhoddaaIdxG
namespace Go.Proofs.Ytbjmafbbjhoddaa.Pv
open Go
set_option linter.unusedVariables false
set_option maxRecDepth 100000

abbrev shFi : Shp := .struct [shIx, .int .i64, .str, shIx]
theorem dec_fi (c : List PV) (h : HasC shFi c) : ∃ a : FiIn, mkV shFi c = fiIn a ∧ c = (fiIn a).cells := by
  obtain ⟨_, _, rfl, hx, _, _, rfl, ⟨i, _, rfl⟩, _, _, rfl, ⟨s, _, rfl⟩, _, _, rfl, hy, rfl⟩ := h
  obtain ⟨x, _, rfl⟩ := dec_ix _ hx
  obtain ⟨y, _, rfl⟩ := dec_ix _ hy
  exact ⟨⟨x, i, s, y⟩, rfl, rfl⟩
theorem fi_of {a : FiIn} (h : (fiIn a).wt ≤ 1048576) : (ix a.x).wt ≤ 1048576 ∧ (ix a.y).wt ≤ 1048576 := by
  simp only [fiIn, ix, PV.wt, wtAll] at h ⊢; omega

theorem indexFindsUpto_law (c0 : List PV) (h0 : HasC shFi c0) (hw : (mkV shFi c0).wt ≤ 1048576) :
    SatCall Try.prog 8 [mkV shFi c0] [] fun r _ => r = .bool true := by
  obtain ⟨a, e, _⟩ := dec_fi c0 h0
  rw [e] at hw ⊢
  obtain ⟨w1, w2⟩ := fi_of hw
  exact (finds_sat a (okB_of w1) (okB_of w2) []).mono fun _ _ h => h.1

end Go.Proofs.Ytbjmafbbjhoddaa.Pv
