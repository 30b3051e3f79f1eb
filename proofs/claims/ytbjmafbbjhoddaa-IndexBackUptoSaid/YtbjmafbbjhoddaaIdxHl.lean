/- IndexBack: for what comes in. -/
import Derived.Test.YtbjmafbbjhoddaaLibIdxDec
import Derived.Test.YtbjmafbbjhoddaaIdxH
namespace Go.Proofs.Ytbjmafbbjhoddaa.Pv
open Go
set_option linter.unusedVariables false
set_option maxRecDepth 100000

theorem dec_cmS (c : List PV) (h : HasC shCm c) : ∃ v : Cm, mkV shCm c = cm v ∧ 0 ≤ v.sum ∧ v.sum < 4294967296 := by
  obtain ⟨_, _, rfl, ⟨a, _, rfl⟩, _, _, rfl, ⟨b, _, rfl⟩, _, _, rfl, ⟨d, _, rfl⟩, _, _, rfl, ⟨e, _, rfl⟩, _, _, rfl, ⟨f, _, rfl⟩, _, _, rfl, ⟨g, _, rfl⟩, _, _, rfl, ⟨i, _, rfl⟩, _, _, rfl, ⟨j, hj, rfl⟩, _, _, rfl, ⟨k, _, rfl⟩, _, _, rfl, ⟨m, _, rfl⟩, _, _, rfl, ⟨n, _, rfl⟩, _, _, rfl, ⟨es, rfl, _, he⟩, rfl⟩ := h
  obtain ⟨l, rfl⟩ := dec_row plc dec_pl he
  refine ⟨⟨a, b, d, e, f, g, i, j, k, m, n, l⟩, rfl, ?_⟩
  have e1 : IntKind.u32.min = 0 := rfl
  have e2 : IntKind.u32.max = 4294967295 := rfl
  simp [Lit.wf] at hj
  show 0 ≤ j ∧ j < 4294967296
  omega
theorem cmOK_of {c : Cm} (h : (cm c).wt ≤ 1048576) (hs : 0 ≤ c.sum ∧ c.sum < 4294967296) : CmOK c := ⟨(cm_of h).1, (cm_of h).2, hs.1, hs.2⟩

theorem indexBackUpto_law (c0 : List PV) (h0 : HasC shCm c0) (c1 : List PV) (h1 : HasC (.int .i64) c1) (hw : (mkV shCm c0).wt + (mkV (.int .i64) c1).wt ≤ 1048576) :
    SatCall Try.prog 11 [mkV shCm c0, mkV (.int .i64) c1] [] fun r _ => r = .bool true := by
  obtain ⟨c, e, hs⟩ := dec_cmS c0 h0
  obtain ⟨n, _, rfl⟩ := h1
  rw [e] at hw ⊢
  exact (back_sat c n (cmOK_of (by omega) hs) []).mono fun _ _ h => h.1

end Go.Proofs.Ytbjmafbbjhoddaa.Pv
