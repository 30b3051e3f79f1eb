/- A command changes no name but its own. -/
import Derived.Test.YtbjmafbbjhoddaaLibIdxSpec
namespace Go.Proofs.Ytbjmafbbjhoddaa.Pv
open Go
set_option linter.unusedVariables false
set_option linter.unusedSimpArgs false
set_option maxRecDepth 100000

theorem fst_find {α : Type} [Inhabited α] (p : α → Bool) (xs : List α) : fstP p xs = (xs.find? p).getD default ∧ decide (0 ≤ idxI p xs) = (xs.find? p).isSome := by
  rcases idx_cases p xs with ⟨e, h⟩ | ⟨q, y, e1, e2, e3, e4⟩
  · have hf : xs.find? p = none := List.find?_eq_none.2 fun x hx => by rw [h x hx]; decide
    rw [hf]
    unfold fstP
    rw [e]
    exact ⟨if_pos (by omega), rfl⟩
  · have hq := (List.getElem?_eq_some_iff.1 e2).1
    have hf : xs.find? p = some y := by
      rw [List.find?_eq_some_iff_getElem]
      refine ⟨e3, q, hq, ?_, fun j hj => ?_⟩
      · have := List.getElem?_eq_getElem hq; rw [e2] at this; exact (Option.some.inj this).symm
      · rw [e4 j _ hj (List.getElem?_eq_getElem (by omega))]; rfl
    rw [hf]
    unfold fstP
    rw [e1]
    refine ⟨?_, by rw [decide_eq_true (by omega)]; rfl⟩
    rw [if_neg (by omega), Int.toNat_natCast, List.getD_eq_getElem?_getD, e2]
theorem find_mid {α : Type} {p : α → Bool} {A B : List α} {a : α} (h : p a = false) : (A ++ a :: B).find? p = (A ++ B).find? p := by
  rw [List.find?_append, List.find?_append, List.find?_cons, h]

theorem doX_names (x : Ix) {c : Cm} {s : ByteArray} (h : s ≠ c.name) : (doX x c).1.names.find? (fun n => beqS n.name s) = x.names.find? (fun n => beqS n.name s) := by
  have hs : ∀ n : Nm, n.name = c.name → beqS n.name s = false := fun n e => by
    cases hb : beqS n.name s with
    | false => rfl
    | true => exact absurd ((beqS_iff.1 hb).symm.trans e) h
  have at_ : ∀ k : Nat, k < x.names.length → (x.names.getD k default).name = c.name → x.names = x.names.take k ++ x.names.getD k default :: x.names.drop (k + 1) := fun k hk _ => by
    rw [List.getD_eq_getElem?_getD, List.getElem?_eq_getElem hk, Option.getD_some, List.getElem_cons_drop, List.take_append_drop]
  have own : ¬ nameI x c.name < 0 → (nameI x c.name).toNat < x.names.length ∧ (x.names.getD (nameI x c.name).toNat default).name = c.name := fun hn => by
    rcases idx_cases (fun n : Nm => beqS n.name c.name) x.names with ⟨e, _⟩ | ⟨q, y, e1, e2, e3, e4⟩
    · unfold nameI at hn; omega
    · have e : nameI x c.name = q := e1
      rw [e, Int.toNat_natCast, List.getD_eq_getElem?_getD, e2]
      exact ⟨(List.getElem?_eq_some_iff.1 e2).1, beqS_iff.1 e3⟩
  have hnm : (namesP x c).1.names.find? (fun n => beqS n.name s) = x.names.find? (fun n => beqS n.name s) := by
    unfold namesP
    split
    · rfl
    split
    · rfl
    · rename_i hn _
      obtain ⟨k1, k2⟩ := own hn
      show (x.names.take _ ++ x.names.drop _).find? _ = _
      conv => rhs; rw [at_ _ k1 k2]
      exact (find_mid (p := fun n : Nm => beqS n.name s) (hs _ k2)).symm
  have hput : (putN x c).find? (fun n => beqS n.name s) = x.names.find? (fun n => beqS n.name s) := by
    unfold putN
    split
    · rename_i hn
      obtain ⟨k1, k2⟩ := own (by omega)
      rw [List.set_eq_take_append_cons_drop, if_pos k1]
      conv => rhs; rw [at_ _ k1 k2]
      rw [find_mid (p := fun n : Nm => beqS n.name s) (hs (newN c) rfl), find_mid (p := fun n : Nm => beqS n.name s) (hs _ k2)]
    · show (insI _ _ _).find? _ = _
      unfold insI
      have e := find_mid (p := fun n : Nm => beqS n.name s) (A := x.names.take (if idxI (gtN c.name) x.names < 0 then x.names.length else (idxI (gtN c.name) x.names).toNat)) (B := x.names.drop (if idxI (gtN c.name) x.names < 0 then x.names.length else (idxI (gtN c.name) x.names).toNat)) (a := newN c) (hs (newN c) rfl)
      rw [List.take_append_drop] at e
      simpa using e
  have hd : (doesX x c).1.names.find? (fun n => beqS n.name s) = x.names.find? (fun n => beqS n.name s) := by
    unfold doesX
    split
    · unfold openX; repeat' split
      all_goals rfl
    split
    · unfold putX; repeat' split
      all_goals first | rfl | exact hput
    split
    · exact hnm
    split
    · exact hnm
    split
    · unfold pairX; dsimp only; repeat' split
      all_goals rfl
    unfold volX
    split
    · rfl
    split
    · unfold resX; repeat' split
      all_goals rfl
    split
    · unfold lockX; repeat' split
      all_goals rfl
    split
    · unfold sealX; repeat' split
      all_goals rfl
    unfold moveX; repeat' split
    all_goals rfl
  unfold doX
  split
  · rfl
  split
  · rfl
  split
  · rfl
  split
  · exact hd
  · exact hd

end Go.Proofs.Ytbjmafbbjhoddaa.Pv
