/- Mirrors' places; which nodes of a region live. -/
import Derived.Test.YtenmnbjhebmpjaaPlnC
namespace Go.Proofs.Ytenmnbjhebmpjaa.Pv
open Go
set_option linter.unusedVariables false
set_option linter.unusedSimpArgs false
set_option maxRecDepth 100000

/-- Which nodes of a region live. -/
def liveTo (l : List Iv) (region : Int) (j : Nat) : List Bool := (List.range j).map fun n : Nat => livesV l (region, n)
def liveP (l : List Iv) (region nodes : Int) : List Bool := if nodes < 0 ∨ 64 < nodes then [] else liveTo l region nodes.toNat
theorem liveTo_succ (l : List Iv) (region : Int) (j : Nat) : liveTo l region (j + 1) = liveTo l region j ++ [livesV l (region, j)] := by
  simp only [liveTo, List.range_succ, List.map_append, List.map_cons, List.map_nil]
theorem liveTo_len (l : List Iv) (region : Int) (j : Nat) : (liveTo l region j).length = j := by simp [liveTo]

end Go.Proofs.Ytenmnbjhebmpjaa.Pv
