/- What holds of every index that commands come to. -/
import Derived.Test.YtbjmafbbjhoddaaLibIdxInv
namespace Go.Proofs.Ytbjmafbbjhoddaa.Pv
open Go
set_option linter.unusedVariables false
set_option linter.unusedSimpArgs false
set_option maxRecDepth 100000

theorem thirdP_ok {a b : Int} (h : (thirdP a b).2 = 0) : (thirdP a b).1 = 6 - a - b := by
  unfold thirdP at h ⊢
  split
  · rfl
  · rename_i hn; rw [if_neg hn] at h; simp at h

theorem Inv.app {vs : List Vl} (h : Inv vs) {w : Vl} (hlen : vs.length < 48) (hw : VolOK (vs ++ [w]) vs.length w) (hu : ∀ (j : Nat) v, vs[j]? = some v → v.id ≠ w.id) : Inv (vs ++ [w]) := by
  have up : ∀ (j : Nat) y, vs[j]? = some y → (vs ++ [w])[j]? = some y := fun j y hj => by
    rw [List.getElem?_append_left (List.getElem?_eq_some_iff.1 hj).1]; exact hj
  refine ⟨by rw [List.length_append]; simp; omega, fun j y hj => ?_, fun j k y z hj hk e => ?_⟩
  · rcases get_app_cases hj with ⟨rfl, rfl⟩ | ⟨_, hj⟩
    · exact hw
    · have hY := h.ok j y hj
      refine ⟨hY.ph, hY.id, fun h5 => ?_, hY.bare, hY.full, fun h4 => ?_, hY.used, hY.hb⟩
      · obtain ⟨q1, q2, q3, a, q4, q5⟩ := hY.sumid h5
        exact ⟨q1, q2, q3, a, up _ _ q4, q5⟩
      · obtain ⟨k, w', m, s, q1, q0, q2, q3, q4, q5, q6, q7, q8, q9⟩ := hY.twin h4
        exact ⟨k, w', m, s, up _ _ q1, q0, q2, q3, q4, q5, up _ _ q6, q7, q8, q9⟩
  · rcases get_app_cases hj with ⟨rfl, e1⟩ | ⟨_, hj2⟩
    · rcases get_app_cases hk with ⟨rfl, _⟩ | ⟨_, hk2⟩
      · rfl
      · exact absurd (by rw [← e, e1]) (hu k z hk2)
    · rcases get_app_cases hk with ⟨rfl, e2⟩ | ⟨_, hk2⟩
      · exact absurd (by rw [e, e2]) (hu j y hj2)
      · exact h.uniq j k y z hj2 hk2 e

theorem Inv.idlt {vs : List Vl} (h : Inv vs) {j : Nat} {v : Vl} (hv : vs[j]? = some v) (hp : v.phase ≠ 5) : v.id = j + 1 ∧ j < vs.length := ⟨(h.ok j v hv).id hp, (List.getElem?_eq_some_iff.1 hv).1⟩

set_option maxHeartbeats 1000000 in
theorem Inv.pair {vs : List Vl} (h : Inv vs) {i k : Nat} {a b : Vl} {pl : List (Int × Int)} (ha : vs[i]? = some a) (hb : vs[k]? = some b) (pa : a.phase = 3) (pb : b.phase = 3) (hh : a.home ≠ b.home) (ht : (thirdP a.home b.home).2 = 0)
    (hw : wholeP pl (thirdP a.home b.home).1 = true) (hl : vs.length < 48) : Inv ((vs.set i (pairA a b)).set k (pairB a b) ++ [pairC' (thirdP a.home b.home).1 a b pl]) := by
  have hik : i ≠ k := fun e => by subst e; rw [ha] at hb; cases hb; exact hh rfl
  obtain ⟨ia, il⟩ := h.idlt ha (by omega)
  obtain ⟨ib, kl⟩ := h.idlt hb (by omega)
  have hlen : ((vs.set i (pairA a b)).set k (pairB a b)).length = vs.length := by rw [List.length_set, List.length_set]
  have sid : sumId a.id b.id = 1000 + 64 * a.id + b.id := sumId_eq (by omega) (by omega)
  have h3 := thirdP_ok ht
  have VA := h.ok i a ha
  have VB := h.ok k b hb
  generalize hvs3 : (vs.set i (pairA a b)).set k (pairB a b) ++ [pairC' (thirdP a.home b.home).1 a b pl] = ws at *
  have gA : ws[i]? = some (pairA a b) := by
    rw [← hvs3, List.getElem?_append_left (by omega), List.getElem?_set, if_neg (Ne.symm hik), List.getElem?_set, if_pos rfl, if_pos il]
  have gB : ws[k]? = some (pairB a b) := by
    rw [← hvs3, List.getElem?_append_left (by omega), List.getElem?_set, if_pos rfl, if_pos (by rw [List.length_set]; exact kl)]
  have gS : ws[vs.length]? = some (pairC' (thirdP a.home b.home).1 a b pl) := by
    rw [← hvs3, List.getElem?_append_right (by omega), hlen, Nat.sub_self]; rfl
  have cases3 : ∀ (j : Nat) y, ws[j]? = some y → (j = vs.length ∧ y = pairC' (thirdP a.home b.home).1 a b pl) ∨ (j = i ∧ y = pairA a b) ∨ (j = k ∧ y = pairB a b) ∨ (j ≠ i ∧ j ≠ k ∧ vs[j]? = some y) := by
    intro j y hj
    rw [← hvs3] at hj
    rcases get_app_cases hj with ⟨e1, e2⟩ | ⟨_, hj⟩
    · rw [hlen] at e1; exact .inl ⟨e1, e2⟩
    rcases get_set_cases hj with ⟨e1, e2, _⟩ | ⟨n1, hj⟩
    · exact .inr (.inr (.inl ⟨e1, e2⟩))
    rcases get_set_cases hj with ⟨e1, e2, _⟩ | ⟨n2, hj⟩
    · exact .inr (.inl ⟨e1, e2⟩)
    · exact .inr (.inr (.inr ⟨n2, n1, hj⟩))
  have keep : ∀ (j : Nat) y, vs[j]? = some y → 4 ≤ y.phase → ws[j]? = some y := by
    intro j y hj h4
    have n1 : j ≠ i := fun e => by subst e; rw [ha] at hj; cases hj; omega
    have n2 : j ≠ k := fun e => by subst e; rw [hb] at hj; cases hj; omega
    have hjl := (List.getElem?_eq_some_iff.1 hj).1
    rw [← hvs3, List.getElem?_append_left (by omega), List.getElem?_set, if_neg (Ne.symm n2), List.getElem?_set, if_neg (Ne.symm n1)]; exact hj
  obtain ⟨w1, w2, w3⟩ := wholeP_nodup hw
  refine ⟨by rw [← hvs3, List.length_append, hlen]; simp; omega, fun j y hj => ?_, fun j j' y z hj hj' e => ?_⟩
  · rcases cases3 j y hj with ⟨rfl, rfl⟩ | ⟨rfl, rfl⟩ | ⟨rfl, rfl⟩ | ⟨n1, n2, hj⟩
    · refine ⟨by simp [pairC'], fun h5 => absurd rfl h5, fun _ => ⟨sid, ⟨?_, ?_⟩, ⟨?_, ?_⟩, pairA a b, ?_, rfl⟩, fun h5 => ?_, fun _ => ⟨w1, w2, w3⟩, fun h5 => ?_, by simp [pairC'], ?_⟩
      · show 1 ≤ a.id; omega
      · show a.id ≤ 48; omega
      · show 1 ≤ b.id; omega
      · show b.id ≤ 48; omega
      · show ws[(a.id - 1).toNat]? = _
        rw [ia, show ((i : Int) + 1 - 1).toNat = i by omega]; exact gA
      · exact absurd h5 (by simp [pairC'])
      · exact absurd h5 (by simp [pairC'])
      · show 1 ≤ (thirdP a.home b.home).1 ∧ (thirdP a.home b.home).1 ≤ 3
        have := VA.hb; have := VB.hb; omega
    · refine ⟨by simp [pairA], fun _ => ia, fun h5 => absurd h5 (by simp [pairA]), fun h5 => absurd h5 (by simp [pairA]), fun _ => VA.full (by omega), fun _ => ⟨k, pairB a b, vs.length, _, gB, rfl, rfl, rfl, rfl, fun e => hh e.symm, gS, rfl, rfl, ?_⟩, VA.used, VA.hb⟩
      show (thirdP a.home b.home).1 + a.home + b.home = 6
      omega
    · refine ⟨by simp [pairB], fun _ => ib, fun h5 => absurd h5 (by simp [pairB]), fun h5 => absurd h5 (by simp [pairB]), fun _ => VB.full (by omega), fun _ => ⟨i, pairA a b, vs.length, _, gA, rfl, rfl, rfl, rfl, hh, gS, rfl, rfl, ?_⟩, VB.used, VB.hb⟩
      show (thirdP a.home b.home).1 + b.home + a.home = 6
      omega
    · have hY := h.ok j y hj
      refine ⟨hY.ph, hY.id, fun h5 => ?_, hY.bare, hY.full, fun h4 => ?_, hY.used, hY.hb⟩
      · obtain ⟨q1, q2, q3, a', q4, q5⟩ := hY.sumid h5
        exact ⟨q1, q2, q3, a', keep _ _ q4 (by omega), q5⟩
      · obtain ⟨k', w', m, s, q1, q0, q2, q3, q4, q5, q6, q7, q8, q9⟩ := hY.twin h4
        exact ⟨k', w', m, s, keep _ _ q1 (by omega), q0, q2, q3, q4, q5, keep _ _ q6 (by omega), q7, q8, q9⟩
  · have back : ∀ (j : Nat) y, ws[j]? = some y → (j = vs.length ∧ y.id = sumId a.id b.id) ∨ ∃ y', vs[j]? = some y' ∧ y'.id = y.id := by
      intro j y hj
      rcases cases3 j y hj with ⟨rfl, rfl⟩ | ⟨rfl, rfl⟩ | ⟨rfl, rfl⟩ | ⟨n1, n2, hj⟩
      · exact .inl ⟨rfl, rfl⟩
      · exact .inr ⟨a, ha, rfl⟩
      · exact .inr ⟨b, hb, rfl⟩
      · exact .inr ⟨y, hj, rfl⟩
    have no : ∀ (j : Nat) y, vs[j]? = some y → y.id ≠ sumId a.id b.id := by
      intro j y hj e
      have hY := h.ok j y hj
      have hjl := (List.getElem?_eq_some_iff.1 hj).1
      by_cases h5 : y.phase = 5
      · obtain ⟨q1, q2, q3, a', q4, q5⟩ := hY.sumid h5
        have : y.pair = a.id := by omega
        rw [this, ia, show ((i : Int) + 1 - 1).toNat = i by omega, ha] at q4
        cases q4; omega
      · have := hY.id h5; omega
    rcases back j y hj with ⟨e1, e2⟩ | ⟨y', g1, g2⟩
    · rcases back j' z hj' with ⟨f1, f2⟩ | ⟨z', k1, k2⟩
      · omega
      · exact absurd (by rw [k2, ← e, e2]) (no j' z' k1)
    · rcases back j' z hj' with ⟨f1, f2⟩ | ⟨z', k1, k2⟩
      · exact absurd (by rw [g2, e, f2]) (no j y' g1)
      · exact h.uniq j j' y' z' g1 k1 (by rw [g2, k2]; exact e)

theorem Inv.vol {x : Ix} (h : Inv x.vols) {j : Nat} {v : Vl} (hv : x.vols[j]? = some v) : volI x v.id = j ∧ volP x v.id = v := by
  have hjl := (List.getElem?_eq_some_iff.1 hv).1
  have hg : x.vols.getD j default = v := by rw [List.getD_eq_getElem?_getD, hv]; rfl
  have e : volI x v.id = j := by
    refine idx_hit hjl (fun k hk => ?_) (by rw [hg]; exact beq_self_eq_true _)
    have hk' : x.vols[k]? = some (x.vols.getD k default) := by rw [List.getD_eq_getElem?_getD, List.getElem?_eq_getElem (by omega)]; rfl
    rw [beq_eq_false_iff_ne]
    exact fun e => by have := h.uniq k j _ _ hk' hv e; omega
  refine ⟨e, ?_⟩
  show fstP _ _ = v
  unfold fstP
  rw [show idxI (fun v_1 : Vl => v_1.id == v.id) x.vols = (j : Int) from e, if_neg (by omega), Int.toNat_natCast, hg]

end Go.Proofs.Ytbjmafbbjhoddaa.Pv
