/- The law SiteThird, of whatever comes in. -/
import Derived.Test.YtilfahfadlijcaaSiteD
namespace Go.Proofs.Ytilfahfadlijcaa.Pv
open Go

theorem siteThird_law (c0 : List PV) (h0 : HasC (.int .i64) c0) (c1 : List PV) (h1 : HasC (.int .i64) c1) : SatCall Try.prog 4 [mkV (.int .i64) c0, mkV (.int .i64) c1] [] fun r _ => r = .bool true := by
  obtain ⟨a, _, rfl⟩ := h0
  obtain ⟨b, _, rfl⟩ := h1
  exact (siteThird_sat a b []).mono fun _ _ h => h.1

end Go.Proofs.Ytilfahfadlijcaa.Pv
