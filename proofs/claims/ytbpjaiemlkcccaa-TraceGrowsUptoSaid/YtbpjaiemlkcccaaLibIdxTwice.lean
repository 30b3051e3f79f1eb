
/- A command that is done twice. -/
import Derived.Test.YtbpjaiemlkcccaaLibK0
namespace Go.Proofs.Ytbpjaiemlkcccaa.Pv
open Go
set_option linter.unusedVariables false
set_option linter.unusedSimpArgs false
set_option maxRecDepth 100000

theorem at0 {α : Type} [Inhabited α] {p : α → Bool} {l : List α} {s : α} (hp : p s = true) : ∃ k : Nat, qc p (ql l (qc p l) s) = k ∧ k < (ql l (qc p l) s).length ∧ (ql l (qc p l) s).getD k default = s := by
  rcases abg p l with ⟨e, h⟩ | ⟨i, y, e1, e2, e3, e4⟩
  · rw [e]
    have hs : ql l (-1) s = l ++ [s] := if_pos (by omega)
    have hg : (l ++ [s]).getD l.length default = s := by rw [List.getD_eq_getElem?_getD, List.getElem?_append_right (Nat.le_refl _), Nat.sub_self]; rfl
    rw [hs]
    refine ⟨l.length, aay (by simp) (fun j hj => ?_) (by rw [hg]; exact hp), by simp, hg⟩
    rw [List.getD_eq_getElem?_getD, List.getElem?_append_left hj, List.getElem?_eq_getElem hj]
    exact h _ (List.getElem_mem _)
  · have hil := (List.getElem?_eq_some_iff.1 e2).1
    rw [e1]
    have hs : ql l (i : Int) s = l.set i s := by unfold ql; rw [if_neg (by omega), Int.toNat_natCast]
    have hg : (l.set i s).getD i default = s := by rw [List.getD_eq_getElem?_getD, List.getElem?_set, if_pos rfl, if_pos hil]; rfl
    rw [hs]
    refine ⟨i, aay (by rw [List.length_set]; exact hil) (fun j hj => ?_) (by rw [hg]; exact hp), by rw [List.length_set]; exact hil, hg⟩
    rw [List.getD_eq_getElem?_getD, List.getElem?_set, if_neg (by omega), List.getElem?_eq_getElem (by omega)]
    exact e4 j _ hj (List.getElem?_eq_getElem (by omega))

end Go.Proofs.Ytbpjaiemlkcccaa.Pv
