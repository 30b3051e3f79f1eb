/- IndexApart: for what comes in. -/
import Derived.Test.YtbjmafbbjhoddaaLibIdxDec
import Derived.Test.YtbjmafbbjhoddaaIdxF
namespace Go.Proofs.Ytbjmafbbjhoddaa.Pv
open Go
set_option linter.unusedVariables false
set_option maxRecDepth 100000

abbrev shAp : Shp := .struct [shIx, shCm, .int .i64, .str]
theorem dec_ap (c : List PV) (h : HasC shAp c) : ∃ a : ApIn, mkV shAp c = apIn a ∧ c = (apIn a).cells := by
  obtain ⟨_, _, rfl, hx, _, _, rfl, hc, _, _, rfl, ⟨i, _, rfl⟩, _, _, rfl, ⟨s, _, rfl⟩, rfl⟩ := h
  obtain ⟨x, _, rfl⟩ := dec_ix _ hx
  obtain ⟨c, _, rfl⟩ := dec_cm _ hc
  exact ⟨⟨x, c, i, s⟩, rfl, rfl⟩
theorem ap_of {a : ApIn} (h : (apIn a).wt ≤ 1048576) : (ix a.x).wt ≤ 1048576 ∧ (cm a.c).wt ≤ 1048576 := by
  simp only [apIn, ix, cm, PV.wt, wtAll] at h ⊢; omega

theorem indexApartUpto_law (c0 : List PV) (h0 : HasC shAp c0) (hw : (mkV shAp c0).wt ≤ 1048576) :
    SatCall Try.prog 7 [mkV shAp c0] [] fun r _ => r = .bool true := by
  obtain ⟨a, e, _⟩ := dec_ap c0 h0
  rw [e] at hw ⊢
  obtain ⟨w1, w2⟩ := ap_of hw
  exact (apart_sat a (okB_of w1) (cm_of w2) []).mono fun _ _ h => h.1

end Go.Proofs.Ytbjmafbbjhoddaa.Pv
