
/- TraceValues: for what comes in. -/
import Derived.Test.YtbpjaiemlkcccaaTrcE
namespace Go.Proofs.Ytbpjaiemlkcccaa.Pv
open Go
set_option linter.unusedVariables false
set_option maxRecDepth 100000

abbrev aji : Shp := .struct [.int .i64, .int .i64, .struct [.int .i64, .int .i64, .int .i64, .int .i64, .int .u32, .bool]]
abbrev agz : Shp := .struct [.int .i64, .int .i64, .int .i64, .int .i64, .str, .struct [.int .i64, .int .i64, .int .i64, .int .i64, .int .u32, .bool]]
abbrev ag0 : Shp := .struct [.int .i64, .int .i64, .str]
abbrev ah8 : Shp := .struct [.sl 11 agz, .sl 3 ag0, .str, .int .i64]
abbrev ag6 : Shp := .struct [.sl 11 agz, .sl 3 ag0, .str, .int .i64, aji, aji]
theorem al8 (c : List PV) (h : abl agz c) : ∃ f : Ft, mkV agz c = ft f ∧ True := by
  obtain ⟨_, _, rfl, ⟨a, _, rfl⟩, _, _, rfl, ⟨b, _, rfl⟩, _, _, rfl, ⟨d, _, rfl⟩, _, _, rfl, ⟨e, _, rfl⟩, _, _, rfl, ⟨g, _, rfl⟩, _, _, rfl, ⟨_, _, rfl, ⟨i, _, rfl⟩, _, _, rfl, ⟨j, _, rfl⟩, _, _, rfl, ⟨k, _, rfl⟩, _, _, rfl, ⟨l, _, rfl⟩, _, _, rfl, ⟨m, _, rfl⟩, _, _, rfl, ⟨n, rfl⟩, rfl⟩, rfl⟩ := h
  exact ⟨⟨a, b, d, e, g, ⟨i, j, k, l, m, n⟩⟩, rfl, trivial⟩
theorem al6 (c : List PV) (h : abl ag0 c) : ∃ p : Pt, mkV ag0 c = pt p ∧ True := by
  obtain ⟨_, _, rfl, ⟨a, _, rfl⟩, _, _, rfl, ⟨b, _, rfl⟩, _, _, rfl, ⟨d, _, rfl⟩, rfl⟩ := h
  exact ⟨(a, b, d), rfl, trivial⟩
theorem ahi (c0 : List PV) (h0 : abl ag6 c0) (hw : (mkV ag6 c0).wt ≤ 1048576) :
    jo Try.prog 8 [mkV ag6 c0] [] fun r _ => r = .bool true := by
  obtain ⟨_, _, rfl, ⟨es, rfl, _, he⟩, _, _, rfl, ⟨gs, rfl, _, hg⟩, _, _, rfl, ⟨s, _, rfl⟩, _, _, rfl, ⟨n, _, rfl⟩,
    _, _, rfl, ⟨_, _, rfl, ⟨a1, _, rfl⟩, _, _, rfl, ⟨a2, _, rfl⟩, _, _, rfl, ⟨_, _, rfl, ⟨a3, _, rfl⟩, _, _, rfl, ⟨a4, _, rfl⟩, _, _, rfl, ⟨a5, _, rfl⟩, _, _, rfl, ⟨a6, _, rfl⟩, _, _, rfl, ⟨a7, _, rfl⟩, _, _, rfl, ⟨a8, rfl⟩, rfl⟩, rfl⟩,
    _, _, rfl, ⟨_, _, rfl, ⟨b1, _, rfl⟩, _, _, rfl, ⟨b2, _, rfl⟩, _, _, rfl, ⟨_, _, rfl, ⟨b3, _, rfl⟩, _, _, rfl, ⟨b4, _, rfl⟩, _, _, rfl, ⟨b5, _, rfl⟩, _, _, rfl, ⟨b6, _, rfl⟩, _, _, rfl, ⟨b7, _, rfl⟩, _, _, rfl, ⟨b8, rfl⟩, rfl⟩, rfl⟩, rfl⟩ := h0
  obtain ⟨F, rfl, _⟩ := aee ft (fun _ => True) al8 he
  obtain ⟨P, rfl, _⟩ := aee pt (fun _ => True) al6 hg
  have h1 := acm (F.map ft)
  have h2 := acm (P.map pt)
  rw [List.length_map] at h1 h2
  have hw : (ag7 F P s n ⟨a1, a2, a3, a4, a5, a6, a7, a8⟩ ⟨b1, b2, b3, b4, b5, b6, b7, b8⟩).wt ≤ 1048576 := hw
  simp only [ag7, PV.wt, ww] at hw
  exact (aqc F P s n ⟨a1, a2, a3, a4, a5, a6, a7, a8⟩ ⟨b1, b2, b3, b4, b5, b6, b7, b8⟩ (by omega) (by omega) []).mono fun _ _ h => h.1

end Go.Proofs.Ytbpjaiemlkcccaa.Pv
