/- A command changes no volume but those that it names. -/
import Derived.Test.YtbjmafbbjhoddaaLibIdxSpec
namespace Go.Proofs.Ytbjmafbbjhoddaa.Pv
open Go
set_option linter.unusedVariables false
set_option linter.unusedSimpArgs false
set_option maxRecDepth 100000

theorem set_keep {α : Type} [Inhabited α] {p : α → Bool} {l : List α} {i : Int} {w : α} (hi : 0 ≤ i → p w = false ∧ p (l.getD i.toNat default) = false) (h0 : 0 ≤ idxI p l) :
    idxI p (setL l i w) = idxI p l ∧ (setL l i w).getD (idxI p l).toNat default = l.getD (idxI p l).toNat default := by
  rcases idx_cases p l with ⟨e, _⟩ | ⟨q, y, e1, e2, e3, e4⟩
  · omega
  have hq := (List.getElem?_eq_some_iff.1 e2).1
  have hy : l.getD q default = y := by rw [List.getD_eq_getElem?_getD, e2]; rfl
  have hno : ∀ j, j < q → p (l.getD j default) = false := fun j hj => e4 j _ hj (by rw [List.getD_eq_getElem?_getD, List.getElem?_eq_getElem (by omega)]; rfl)
  rw [e1, Int.toNat_natCast]
  unfold setL
  by_cases hn : i < 0
  · rw [if_pos hn]
    have g : ∀ j, j < l.length → (l ++ [w]).getD j default = l.getD j default := fun j hj => by
      rw [List.getD_eq_getElem?_getD, List.getElem?_append_left hj, List.getD_eq_getElem?_getD]
    exact ⟨idx_hit (by rw [List.length_append]; omega) (fun j hj => by rw [g j (by omega)]; exact hno j hj) (by rw [g q hq, hy]; exact e3), g q hq⟩
  · rw [if_neg hn]
    obtain ⟨k1, k2⟩ := hi (by omega)
    have g : ∀ j, j < l.length → (l.set i.toNat w).getD j default = if i.toNat = j then w else l.getD j default := fun j hj => by
      rw [List.getD_eq_getElem?_getD, List.getElem?_set]
      split
      · rename_i h; subst h; rw [if_pos hj]; rfl
      · rw [List.getD_eq_getElem?_getD]
    have hne : i.toNat ≠ q := fun e => by rw [e, hy, e3] at k2; cases k2
    have gp : ∀ j, j < l.length → p ((l.set i.toNat w).getD j default) = p (l.getD j default) := fun j hj => by
      rw [g j hj]
      split
      · rename_i h; rw [← h, k1, k2]
      · rfl
    exact ⟨idx_hit (by rw [List.length_set]; exact hq) (fun j hj => by rw [gp j (by omega)]; exact hno j hj) (by rw [gp q hq, hy]; exact e3), by rw [g q hq, if_neg hne]⟩

/-- The first volume of a number stays where it is, and as it is. -/
def KeepV (vs ws : List Vl) (id : Int) : Prop := 0 ≤ idxI (fun v : Vl => v.id == id) vs → idxI (fun v : Vl => v.id == id) ws = idxI (fun v : Vl => v.id == id) vs ∧ ws.getD (idxI (fun v : Vl => v.id == id) vs).toNat default = vs.getD (idxI (fun v : Vl => v.id == id) vs).toNat default
theorem KeepV.refl (vs : List Vl) (id : Int) : KeepV vs vs id := fun _ => ⟨rfl, rfl⟩
theorem KeepV.trans {a b c : List Vl} {id : Int} (h : KeepV a b id) (k : KeepV b c id) : KeepV a c id := fun h0 => by
  obtain ⟨h1, h2⟩ := h h0
  obtain ⟨k1, k2⟩ := k (by rw [h1]; exact h0)
  rw [h1] at k1 k2
  exact ⟨k1, by rw [k2, h2]⟩
theorem KeepV.set {vs : List Vl} {id i : Int} {w : Vl} (hi : 0 ≤ i → w.id ≠ id ∧ (vs.getD i.toNat default).id ≠ id) : KeepV vs (setL vs i w) id := fun h0 =>
  set_keep (p := fun v : Vl => v.id == id) (fun h => by obtain ⟨a, b⟩ := hi h; exact ⟨by simpa using a, by simpa using b⟩) h0

theorem volI_id {x : Ix} {id : Int} (h : ¬ volI x id < 0) : (x.vols.getD (volI x id).toNat default).id = id := by
  rcases idx_cases (fun v : Vl => v.id == id) x.vols with ⟨e, _⟩ | ⟨q, y, e1, e2, e3, e4⟩
  · unfold volI at h; omega
  · have e : volI x id = q := e1
    rw [e, Int.toNat_natCast, List.getD_eq_getElem?_getD, e2]; simpa using e3

set_option maxHeartbeats 1000000 in
theorem doesX_keep {x : Ix} {c : Cm} {id : Int} (h1 : id ≠ c.vol) (h2 : id ≠ c.mate) : KeepV x.vols (doesX x c).1.vols id := by
  have one : ∀ (w : Vl), ¬ volI x c.vol < 0 → w.id = (x.vols.getD (volI x c.vol).toNat default).id → KeepV x.vols (setL x.vols (volI x c.vol) w) id := fun w h e => by
    have hv := volI_id h
    exact .set fun _ => ⟨by rw [e, hv]; exact fun e => h1 e.symm, by rw [hv]; exact fun e => h1 e.symm⟩
  have rf : KeepV x.vols x.vols id := .refl _ _
  unfold doesX
  split
  · unfold openX
    split
    · exact rf
    split
    · exact rf
    · exact KeepV.set (i := -1) fun h => absurd h (by decide)
  split
  · unfold putX
    split
    · exact rf
    split
    · exact rf
    rename_i _ hv
    split
    · exact rf
    split
    · exact rf
    split
    · exact rf
    · exact one _ hv rfl
  have nm : KeepV x.vols (namesP x c).1.vols id := by
    unfold namesP
    split
    · exact rf
    split
    · exact rf
    · exact rf
  split
  · exact nm
  split
  · exact nm
  split
  · unfold pairX
    dsimp only
    split
    · exact rf
    rename_i h0
    have h0 := not_or.1 h0
    have ha := volI_id h0.1
    have hb := volI_id h0.2
    split
    · exact rf
    split
    · exact rf
    split
    · exact rf
    · refine (KeepV.trans (one (pairA (x.vols.getD (volI x c.vol).toNat default) (x.vols.getD (volI x c.mate).toNat default)) h0.1 rfl) (KeepV.set (i := volI x c.mate) (w := pairB (x.vols.getD (volI x c.vol).toNat default) (x.vols.getD (volI x c.mate).toNat default)) fun hk => ⟨?_, ?_⟩)).trans (KeepV.set (i := -1) fun h => absurd h (by decide))
      · show (x.vols.getD (volI x c.mate).toNat default).id ≠ id
        rw [hb]; exact fun e => h2 e.symm
      · unfold setL
        rw [if_neg h0.1, List.getD_eq_getElem?_getD, List.getElem?_set]
        split
        · split
          · show (x.vols.getD (volI x c.vol).toNat default).id ≠ id
            rw [ha]; exact fun e => h1 e.symm
          · rename_i e1 e2
            exact absurd (idxI_ltL (p := fun v : Vl => v.id == c.vol) (xs := x.vols) (by have := h0.1; unfold volI at this; omega)) e2
        · rw [← List.getD_eq_getElem?_getD, hb]; exact fun e => h2 e.symm
  · unfold volX
    split
    · exact rf
    rename_i hv
    split
    · unfold resX
      split
      · exact rf
      split
      · exact rf
      split
      · exact rf
      · exact one _ hv rfl
    split
    · unfold lockX
      split
      · exact rf
      · exact one _ hv rfl
    split
    · unfold sealX
      split
      · exact rf
      split
      · exact rf
      · exact one _ hv rfl
    · unfold moveX
      split
      · exact rf
      split
      · exact rf
      split
      · exact rf
      · exact one _ hv rfl

theorem doX_keep (x : Ix) {c : Cm} {id : Int} (h1 : id ≠ c.vol) (h2 : id ≠ c.mate) : KeepV x.vols (doX x c).1.vols id := by
  unfold doX
  split
  · exact .refl _ _
  split
  · exact .refl _ _
  split
  · exact .refl _ _
  split
  · exact doesX_keep h1 h2
  · exact doesX_keep h1 h2

end Go.Proofs.Ytbjmafbbjhoddaa.Pv
