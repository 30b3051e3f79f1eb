/- The bulk of what comes in, as the rows count it. -/
import Derived.Test.YtbjmafbbjhoddaaRows
import Derived.Test.YtbjmafbbjhoddaaPvM2
namespace Go.Proofs.Ytbjmafbbjhoddaa.Pv
open Go

theorem bulkAll_sum {H : Type} : ∀ l : List (DataW H), Rows.uptoBulkAll l = (l.map Rows.uptoBulk).sum
  | [] => by simp [Rows.uptoBulkAll]
  | d :: r => by simp only [Rows.uptoBulkAll, List.map_cons, List.sum_cons, bulkAll_sum r]

theorem bulk_rows {H : Type} : Bulk (Rows.uptoBulk (H := H)) := by
  refine ⟨fun l => ?_, fun b => by simp [Rows.uptoBulk], by simp [Rows.uptoBulk], fun es sp => ?_, fun ps => ?_⟩
  · cases l <;> simp [Rows.uptoBulk]
  · simp only [Rows.uptoBulk, bulkAll_sum]; omega
  · simp only [Rows.uptoBulk, bulkAll_sum]; omega

end Go.Proofs.Ytbjmafbbjhoddaa.Pv
