
/- TraceOnce: for what comes in. -/
import Derived.Test.YtbpjaiemlkcccaaTrcB
namespace Go.Proofs.Ytbpjaiemlkcccaa.Pv
open Go
set_option linter.unusedVariables false
set_option maxRecDepth 100000

theorem ahb {c : List PV} (h : abl (.sl 1 .str) c) : ∃ l : List ByteArray, mkV (.sl 1 .str) c = .sl .sh 1 (l.map .str) := by
  obtain ⟨es, rfl, _, he⟩ := h
  obtain ⟨l, h1, _⟩ := aee PV.str (fun _ => True) (fun c hc => by obtain ⟨s, _, rfl⟩ := hc; exact ⟨s, rfl, trivial⟩) he
  exact ⟨l, by rw [h1]; rfl⟩
theorem ail (c0 : List PV) (h0 : abl (.sl 1 .str) c0) (hw : (mkV (.sl 1 .str) c0).wt ≤ 1048576) :
    jo Try.prog 3 [mkV (.sl 1 .str) c0] [] fun r _ => r = .bool true := by
  obtain ⟨l, e⟩ := ahb h0
  rw [e] at hw ⊢
  simp only [PV.wt] at hw
  exact (atj l (by omega) []).mono fun _ _ h => h.1

end Go.Proofs.Ytbpjaiemlkcccaa.Pv
