/- The bulk of what comes in, as the rows count it. -/
import Derived.Test.YtbpjaiemlkcccaaRows
import Derived.Test.YtbpjaiemlkcccaaPvM2
namespace Go.Proofs.Ytbpjaiemlkcccaa.Pv
open Go

theorem agi {H : Type} : ∀ l : List (DataW H), Rows.uptoBulkAll l = (l.map Rows.uptoBulk).sum
  | [] => by simp [Rows.uptoBulkAll]
  | d :: r => by simp only [Rows.uptoBulkAll, List.map_cons, List.sum_cons, agi r]

theorem aeo {H : Type} : Bulk (Rows.uptoBulk (H := H)) := by
  refine ⟨fun l => ?_, fun b => by simp [Rows.uptoBulk], by simp [Rows.uptoBulk], fun es sp => ?_, fun ps => ?_⟩
  · cases l <;> simp [Rows.uptoBulk]
  · simp only [Rows.uptoBulk, agi]; omega
  · simp only [Rows.uptoBulk, agi]; omega

end Go.Proofs.Ytbpjaiemlkcccaa.Pv
