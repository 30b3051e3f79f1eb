/- Rows of one thing; mirrors; which nodes live. -/
import Derived.Test.YtenmnbjhebmpjaaPlnB
namespace Go.Proofs.Ytenmnbjhebmpjaa.Pv
open Go
set_option linter.unusedVariables false
set_option linter.unusedSimpArgs false
set_option maxRecDepth 100000

theorem frz_bsl {α : Type} {f : α → PV} (h1 : ∀ x, (f x).cells = [f x]) {i cap : Nat} {xs : List α} : Frz i (xs.map f) (.sl .sh 1 (xs.map f)) (.bsl i 0 1 xs.length cap) := by
  have hf : flat (xs.map f) = xs.map f := by
    induction xs with
    | nil => rfl
    | cons x r ih => simp only [List.map_cons, flat, h1, ih]; rfl
  refine .inr (.inr ⟨0, 1, xs.length, cap, xs.map f, .inl rfl, rfl, by simp, fun e he => ?_, by simp, fun j c hc => ?_⟩)
  · obtain ⟨x, _, rfl⟩ := List.mem_map.1 he
    rw [h1]; rfl
  · rw [hf] at hc; simpa using hc

end Go.Proofs.Ytenmnbjhebmpjaa.Pv
