/- A command that is done twice. -/
import Derived.Test.YtbjmafbbjhoddaaLibIdxSpec
namespace Go.Proofs.Ytbjmafbbjhoddaa.Pv
open Go
set_option linter.unusedVariables false
set_option linter.unusedSimpArgs false
set_option maxRecDepth 100000

theorem set_find {α : Type} [Inhabited α] {p : α → Bool} {l : List α} {s : α} (hp : p s = true) : ∃ k : Nat, idxI p (setL l (idxI p l) s) = k ∧ k < (setL l (idxI p l) s).length ∧ (setL l (idxI p l) s).getD k default = s := by
  rcases idx_cases p l with ⟨e, h⟩ | ⟨i, y, e1, e2, e3, e4⟩
  · rw [e]
    have hs : setL l (-1) s = l ++ [s] := if_pos (by omega)
    have hg : (l ++ [s]).getD l.length default = s := by rw [List.getD_eq_getElem?_getD, List.getElem?_append_right (Nat.le_refl _), Nat.sub_self]; rfl
    rw [hs]
    refine ⟨l.length, idx_hit (by simp) (fun j hj => ?_) (by rw [hg]; exact hp), by simp, hg⟩
    rw [List.getD_eq_getElem?_getD, List.getElem?_append_left hj, List.getElem?_eq_getElem hj]
    exact h _ (List.getElem_mem _)
  · have hil := (List.getElem?_eq_some_iff.1 e2).1
    rw [e1]
    have hs : setL l (i : Int) s = l.set i s := by unfold setL; rw [if_neg (by omega), Int.toNat_natCast]
    have hg : (l.set i s).getD i default = s := by rw [List.getD_eq_getElem?_getD, List.getElem?_set, if_pos rfl, if_pos hil]; rfl
    rw [hs]
    refine ⟨i, idx_hit (by rw [List.length_set]; exact hil) (fun j hj => ?_) (by rw [hg]; exact hp), by rw [List.length_set]; exact hil, hg⟩
    rw [List.getD_eq_getElem?_getD, List.getElem?_set, if_neg (by omega), List.getElem?_eq_getElem (by omega)]
    exact e4 j _ hj (List.getElem?_eq_getElem (by omega))

theorem do_twice {x : Ix} {c : Cm} (hm : mayC c = true) (hc : 0 < c.client) :
    0 ≤ lastI (doX x c).1 c.client ∧ (doX (doX x c).1 c).1 = (doX x c).1 ∧ (((doX x c).1.last.getD (lastI (doX x c).1 c.client).toNat default).seq ≠ c.seq ∨ (doX (doX x c).1 c).2 = (doX x c).2) := by
  have hm' : ¬ mayC c = false := by rw [hm]; decide
  by_cases h1 : 0 ≤ lastI x c.client ∧ (x.last.getD (lastI x c.client).toNat default).seq = c.seq
  · have e : doX x c = (x, rpOf (x.last.getD (lastI x c.client).toNat default)) := by
      unfold doX; rw [if_neg hm', if_pos ⟨hc, h1⟩]
    rw [e]; dsimp only
    rw [e]
    exact ⟨h1.1, rfl, .inr rfl⟩
  by_cases h2 : 0 ≤ lastI x c.client ∧ c.seq < (x.last.getD (lastI x c.client).toNat default).seq
  · have e : doX x c = (x, refuse 9) := by
      unfold doX; rw [if_neg hm', if_neg (fun h => h1 h.2), if_pos ⟨hc, h2⟩]
    rw [e]; dsimp only
    rw [e]
    exact ⟨h2.1, rfl, .inr rfl⟩
  have e : doX x c = (⟨(doesX x c).1.vols, (doesX x c).1.names, setL x.last (lastI x c.client) (ssOf c (doesX x c).2)⟩, (doesX x c).2) := by
    unfold doX; rw [if_neg hm', if_neg (fun h => h1 h.2), if_neg (fun h => h2 h.2), if_pos hc, doesX_last]
  rw [e]
  dsimp only
  obtain ⟨k, k1, k2, k3⟩ := set_find (p := fun s : Ss => s.client == c.client) (l := x.last) (s := ssOf c (doesX x c).2) (beq_self_eq_true c.client)
  generalize (doesX x c).1.vols = vs at *
  generalize (doesX x c).1.names = ns at *
  generalize (doesX x c).2 = R at *
  generalize hy : (⟨vs, ns, setL x.last (lastI x c.client) (ssOf c R)⟩ : Ix) = y
  have hl : lastI y c.client = k := by rw [← hy]; exact k1
  have hg : y.last.getD k default = ssOf c R := by rw [← hy]; exact k3
  have e2 : doX y c = (y, rpOf (y.last.getD (lastI y c.client).toNat default)) := by
    unfold doX
    rw [if_neg hm', if_pos ⟨hc, by rw [hl]; omega, by rw [hl, Int.toNat_natCast, hg]; rfl⟩]
  rw [e2]
  refine ⟨by rw [hl]; omega, rfl, .inr ?_⟩
  dsimp only
  rw [hl, Int.toNat_natCast, hg]; rfl

end Go.Proofs.Ytbjmafbbjhoddaa.Pv
