/- AcceptKeeps: the law. -/
import Derived.Test.YtflgoabdgibphaaAccJ
namespace Go.Proofs.Ytflgoabdgibphaa.Pv
open Go
set_option linter.unusedVariables false
set_option linter.unusedSimpArgs false
set_option maxRecDepth 100000

theorem dec_ask (c : List PV) (h : HasC (.struct [.int .i64, .int .u64, .struct [.int .i64, .int .u64, .str]]) c) : ∃ q : Ask, mkV (.struct [.int .i64, .int .u64, .struct [.int .i64, .int .u64, .str]]) c = ask q ∧ True := by
  obtain ⟨_, _, rfl, ⟨k, _, rfl⟩, _, _, rfl, ⟨b, _, rfl⟩, _, _, rfl, hv, rfl⟩ := h
  obtain ⟨v, _, rfl⟩ := dec_vt _ hv
  exact ⟨(k, b, v), rfl, trivial⟩
theorem wt_ask : ∀ (l : List Ask), l.length + l.length ≤ wtAll (l.map ask)
  | [] => Nat.zero_le _
  | y :: r => by
    have h1 := wt_ask r
    simp only [List.map_cons, List.length_cons, wtAll, ask, PV.wt] at h1 ⊢; omega

theorem acceptKeepsUpto_law (c0 : List PV) (h0 : HasC (.sl 5 (.struct [.int .i64, .int .u64, .struct [.int .i64, .int .u64, .str]])) c0)
    (hw : (mkV (.sl 5 (.struct [.int .i64, .int .u64, .struct [.int .i64, .int .u64, .str]])) c0).wt ≤ 1048576) :
    SatCall Try.prog 3 [mkV (.sl 5 (.struct [.int .i64, .int .u64, .struct [.int .i64, .int .u64, .str]])) c0] [] fun r _ => r = .bool true := by
  obtain ⟨es, rfl, _, he⟩ := h0
  obtain ⟨l, rfl, _⟩ := elems_of ask (fun _ => True) dec_ask he
  have h1 := wt_ask l
  have hw' : wtAll (l.map ask) ≤ 1048576 := by simp only [mkV, PV.wt] at hw; omega
  exact (acceptKeeps_sat l (by omega) []).mono fun _ _ h => h.1

end Go.Proofs.Ytflgoabdgibphaa.Pv
