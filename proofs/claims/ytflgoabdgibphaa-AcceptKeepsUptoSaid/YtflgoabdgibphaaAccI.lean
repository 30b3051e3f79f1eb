/- What an acceptor keeps: plain. -/
import Derived.Test.YtflgoabdgibphaaAccH
namespace Go.Proofs.Ytflgoabdgibphaa.Pv
open Go
set_option linter.unusedVariables false
set_option linter.unusedSimpArgs false

/-- Right acceptors, by their votes. -/
structure Rgt (a : Acp) : Prop where
  each : ∀ x ∈ a.2, mayV x = true ∧ x.2.1 ≤ a.1
  sorted : a.2.Pairwise fun x y => x.1 < y.1

theorem getD_eqE {xs : List Vt} {i : Nat} (h : i < xs.length) : xs.getD i default = xs[i] := by simp [List.getD, h]

theorem rgt_of {a : Acp} (h : rightP a = true) : Rgt a := by
  have hok : ∀ i, i < a.2.length → okAt a.1 a.2 i = true := fun i hi => List.all_eq_true.1 h i (List.mem_range.2 hi)
  refine ⟨fun x hx => ?_, List.pairwise_iff_getElem.2 fun i j hi hj hij => ?_⟩
  · obtain ⟨i, hi, rfl⟩ := List.getElem_of_mem hx
    have := okAt_iff.1 (hok i hi)
    rw [getD_eqE hi] at this
    exact ⟨this.1, this.2.1⟩
  · obtain ⟨d, rfl⟩ : ∃ d, j = i + 1 + d := ⟨j - i - 1, by omega⟩
    clear hij
    induction d with
    | zero =>
      have := (okAt_iff.1 (hok (i + 1) hj)).2.2
      rw [Nat.add_sub_cancel, getD_eqE hi, getD_eqE hj] at this
      rcases this with h | h
      · omega
      · exact h
    | succ d ih =>
      have h1 := ih (by omega)
      have := (okAt_iff.1 (hok (i + 1 + (d + 1)) hj)).2.2
      rw [show i + 1 + (d + 1) - 1 = i + 1 + d by omega, getD_eqE (show i + 1 + d < a.2.length by omega), getD_eqE hj] at this
      rcases this with h | h
      · omega
      · exact Int.lt_trans h1 h
theorem of_rgt {a : Acp} (h : Rgt a) : rightP a = true := by
  refine right_yes fun i hi => okAt_iff.2 ?_
  obtain ⟨h1, h2⟩ := h.each a.2[i] (List.getElem_mem hi)
  rw [getD_eqE hi]
  refine ⟨h1, h2, ?_⟩
  rcases Nat.eq_zero_or_pos i with h0 | h0
  · exact .inl h0
  · right
    rw [getD_eqE (show i - 1 < a.2.length by omega)]
    exact List.pairwise_iff_getElem.1 h.sorted (i - 1) i (by omega) hi (by omega)

/-- What may become of a vote: it stays, or one of its slot of no lesser ballot stands there. -/
def Stays (xs : List Vt) (x : Vt) : Prop := ∃ y ∈ xs, y = x ∨ (y.1 = x.1 ∧ x.2.1 ≤ y.2.1)
structure Keeps (a a' : Acp) : Prop where
  rgt : Rgt a'
  up : a.1 ≤ a'.1
  stays : ∀ x ∈ a.2, Stays a'.2 x

theorem keeps_refl {a : Acp} (h : Rgt a) : Keeps a a := ⟨h, Int.le_refl _, fun x hx => ⟨x, hx, .inl rfl⟩⟩
theorem keeps_prep {a : Acp} (h : Rgt a) (b : Int) : Keeps a (prepP a b).1 := by
  unfold prepP
  split
  · exact keeps_refl h
  · split
    · exact keeps_refl h
    · rename_i h1
      exact ⟨⟨fun x hx => ⟨(h.each x hx).1, by have := (h.each x hx).2; show x.2.1 ≤ b; omega⟩, h.sorted⟩, by show a.1 ≤ b; omega, fun x hx => ⟨x, hx, .inl rfl⟩⟩

theorem idxI_split {α : Type} {p : α → Bool} {xs : List α} (h : 0 ≤ idxI p xs) : ∃ l x r, xs = l ++ x :: r ∧ l.length = (idxI p xs).toNat ∧ p x = true ∧ ∀ y ∈ l, p y = false := by
  unfold idxI at h ⊢
  split at h
  · rename_i i hi
    rw [List.findIdx?_eq_some_iff_getElem] at hi
    obtain ⟨h1, h2, h3⟩ := hi
    refine ⟨xs.take i, xs[i], xs.drop (i + 1), ?_, by simp; omega, h2, fun y hy => ?_⟩
    · rw [← List.drop_eq_getElem_cons h1, List.take_append_drop]
    · obtain ⟨j, hj, rfl⟩ := List.getElem_of_mem hy
      rw [List.length_take] at hj
      have := h3 j (by omega)
      rw [List.getElem_take]
      simpa using this
  · omega
theorem idxI_all {α : Type} {p : α → Bool} {xs : List α} (h : idxI p xs < 0) {x : α} (hx : x ∈ xs) : p x = false := by
  unfold idxI at h
  split at h
  · omega
  · rename_i h'
    rw [List.findIdx?_eq_none_iff] at h'
    simpa using h' x hx

theorem keeps_put {a : Acp} (h : Rgt a) {v : Vt} (hv : mayV v = true) (hb : a.1 ≤ v.2.1) : Keeps a (v.2.1, putV a.2 v) := by
  obtain ⟨p, xs⟩ := a
  obtain ⟨he, hs⟩ := h
  dsimp only at he hs hb
  have he' : ∀ x ∈ xs, mayV x = true ∧ x.2.1 ≤ v.2.1 := fun x hx => ⟨(he x hx).1, Int.le_trans (he x hx).2 hb⟩
  refine ⟨?_, hb, ?_⟩
  · unfold putV
    by_cases h1 : 0 ≤ idxI (fun x : Vt => x.1 == v.1) xs
    · rw [if_pos h1]
      obtain ⟨l, x, r, e1, e2, e3, _⟩ := idxI_split h1
      generalize (idxI (fun x : Vt => x.1 == v.1) xs).toNat = i at e2 ⊢
      subst e1
      have hset : (l ++ x :: r).set i v = l ++ v :: r := by rw [← e2, List.set_append_right _ _ (Nat.le_refl _)]; simp
      rw [hset]
      have e3 : x.1 = v.1 := by simpa using e3
      refine ⟨fun y hy => ?_, ?_⟩
      · rcases List.mem_append.1 hy with hy | hy
        · exact he' y (List.mem_append_left _ hy)
        · rcases List.mem_cons.1 hy with rfl | hy
          · exact ⟨hv, Int.le_refl _⟩
          · exact he' y (List.mem_append_right _ (List.mem_cons_of_mem _ hy))
      · dsimp only
        rw [List.pairwise_append, List.pairwise_cons] at hs ⊢
        obtain ⟨k1, ⟨k2, k3⟩, k4⟩ := hs
        refine ⟨k1, ⟨fun y hy => by rw [← e3]; exact k2 y hy, k3⟩, fun y hy z hz => ?_⟩
        rcases List.mem_cons.1 hz with rfl | hz
        · rw [← e3]; exact k4 y hy x List.mem_cons_self
        · exact k4 y hy z (List.mem_cons_of_mem _ hz)
    · rw [if_neg h1]
      have hne : ∀ x ∈ xs, x.1 ≠ v.1 := fun x hx => by simpa using idxI_all (by omega : idxI (fun x : Vt => x.1 == v.1) xs < 0) hx
      have key : ∀ l r, xs = l ++ r → (∀ y ∈ l, y.1 < v.1) → (∀ y ∈ r, v.1 < y.1) → Rgt (v.2.1, l ++ v :: r) := by
        intro l r e1 e2 e3
        subst e1
        refine ⟨fun y hy => ?_, ?_⟩
        · rcases List.mem_append.1 hy with hy | hy
          · exact he' y (List.mem_append_left _ hy)
          · rcases List.mem_cons.1 hy with rfl | hy
            · exact ⟨hv, Int.le_refl _⟩
            · exact he' y (List.mem_append_right _ hy)
        · dsimp only
          rw [List.pairwise_append] at hs
          rw [List.pairwise_append, List.pairwise_cons]
          refine ⟨hs.1, ⟨e3, hs.2.1⟩, fun y hy z hz => ?_⟩
          rcases List.mem_cons.1 hz with rfl | hz
          · exact e2 y hy
          · exact hs.2.2 y hy z hz
      by_cases h2 : idxI (fun x : Vt => decide (v.1 < x.1)) xs < 0
      · rw [if_pos h2, insI, List.take_length, List.drop_length]
        refine key xs [] (by simp) (fun y hy => ?_) (fun y hy => by cases hy)
        have k1 := of_decide_eq_false (idxI_all h2 hy)
        have k2 := hne y hy
        omega
      · rw [if_neg h2]
        obtain ⟨l, x, r, e1, e2, e3, e4⟩ := idxI_split (by omega : 0 ≤ idxI (fun x : Vt => decide (v.1 < x.1)) xs)
        rw [insI, ← e2]
        have ht : xs.take l.length = l := by rw [e1]; simp
        have hd : xs.drop l.length = x :: r := by rw [e1]; simp
        rw [ht, hd]
        have e3 := of_decide_eq_true e3
        refine key l (x :: r) e1 (fun y hy => ?_) (fun y hy => ?_)
        · have k1 := of_decide_eq_false (e4 y hy)
          have k2 := hne y (by rw [e1]; exact List.mem_append_left _ hy)
          omega
        · rcases List.mem_cons.1 hy with rfl | hy
          · exact e3
          · rw [e1, List.pairwise_append, List.pairwise_cons] at hs
            have := hs.2.1.1 y hy
            omega
  · intro x hx
    dsimp only at hx ⊢
    unfold putV
    by_cases h1 : 0 ≤ idxI (fun x : Vt => x.1 == v.1) xs
    · rw [if_pos h1]
      obtain ⟨l, y, r, e1, e2, e3, _⟩ := idxI_split h1
      generalize (idxI (fun x : Vt => x.1 == v.1) xs).toNat = i at e2 ⊢
      subst e1
      have hset : (l ++ y :: r).set i v = l ++ v :: r := by rw [← e2, List.set_append_right _ _ (Nat.le_refl _)]; simp
      rw [hset]
      have e3 : y.1 = v.1 := by simpa using e3
      rcases List.mem_append.1 hx with hx' | hx'
      · exact ⟨x, List.mem_append_left _ hx', .inl rfl⟩
      · rcases List.mem_cons.1 hx' with rfl | hx'
        · exact ⟨v, List.mem_append_right _ List.mem_cons_self, .inr ⟨e3.symm, (he' x hx).2⟩⟩
        · exact ⟨x, List.mem_append_right _ (List.mem_cons_of_mem _ hx'), .inl rfl⟩
    · rw [if_neg h1]
      generalize (if idxI (fun x : Vt => decide (v.1 < x.1)) xs < 0 then xs.length else (idxI (fun x : Vt => decide (v.1 < x.1)) xs).toNat) = g
      refine ⟨x, ?_, .inl rfl⟩
      rw [insI]
      rw [← List.take_append_drop g xs] at hx
      rcases List.mem_append.1 hx with hx | hx
      · exact List.mem_append_left _ hx
      · exact List.mem_append_right _ (List.mem_cons_of_mem _ hx)

theorem keeps_acc {a : Acp} (h : Rgt a) (v : Vt) : Keeps a (accP a v).1 := by
  unfold accP
  split
  · exact keeps_refl h
  · split
    · exact keeps_refl h
    · rename_i h1 h2
      exact keeps_put h (by simpa using h1) (by omega)

end Go.Proofs.Ytflgoabdgibphaa.Pv
