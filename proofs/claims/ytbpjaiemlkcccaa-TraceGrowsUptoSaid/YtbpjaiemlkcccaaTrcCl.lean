
/- TraceGrows: for what comes in. -/
import Derived.Test.YtbpjaiemlkcccaaTrcC
namespace Go.Proofs.Ytbpjaiemlkcccaa.Pv
open Go
set_option linter.unusedVariables false
set_option maxRecDepth 100000

theorem ahb {c : List PV} (h : abl (.sl 1 .str) c) : ∃ l : List ByteArray, mkV (.sl 1 .str) c = .sl .sh 1 (l.map .str) := by
  obtain ⟨es, rfl, _, he⟩ := h
  obtain ⟨l, h1, _⟩ := aee PV.str (fun _ => True) (fun c hc => by obtain ⟨s, _, rfl⟩ := hc; exact ⟨s, rfl, trivial⟩) he
  exact ⟨l, by rw [h1]; rfl⟩
theorem aho (c0 : List PV) (h0 : abl (.sl 1 .str) c0) (c1 : List PV) (h1 : abl (.sl 1 .str) c1) (hw : (mkV (.sl 1 .str) c0).wt + (mkV (.sl 1 .str) c1).wt ≤ 1048576) :
    jo Try.prog 4 [mkV (.sl 1 .str) c0, mkV (.sl 1 .str) c1] [] fun r _ => r = .bool true := by
  obtain ⟨l, e⟩ := ahb h0
  obtain ⟨m, e2⟩ := ahb h1
  rw [e, e2] at hw ⊢
  simp only [PV.wt] at hw
  exact (aq5 l m (by omega) []).mono fun _ _ h => h.1

end Go.Proofs.Ytbpjaiemlkcccaa.Pv
