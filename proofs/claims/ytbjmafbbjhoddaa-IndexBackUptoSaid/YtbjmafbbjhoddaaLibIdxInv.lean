/- What a command makes of an index's volumes and names, case for case; what holds of every index that commands come to. -/
import Derived.Test.YtbjmafbbjhoddaaLibIdxSpec
namespace Go.Proofs.Ytbjmafbbjhoddaa.Pv
open Go
set_option linter.unusedVariables false
set_option linter.unusedSimpArgs false
set_option maxRecDepth 100000

inductive St (x : Ix) : List Vl → List Nm → Prop
  | same : St x x.vols x.names
  | app (h m : Int) (hh : 1 ≤ h ∧ h ≤ 3) (hl : x.vols.length < 48) : St x (x.vols ++ [⟨x.vols.length + 1, h, m, 0, 1, [], [], 0, 0⟩]) x.names
  | res (i : Nat) (v : Vl) (n : Int) (hv : x.vols[i]? = some v) (hp : v.phase = 1) (hn : 1 ≤ n ∧ n ≤ 32) (hu : v.used ≤ 160 - n) : St x (x.vols.set i ⟨v.id, v.home, v.mate, w64 (v.used + n), v.phase, v.parts, v.places, v.pair, v.sum⟩) x.names
  | lock (i : Nat) (v : Vl) (hv : x.vols[i]? = some v) (hp : v.phase = 1) : St x (x.vols.set i ⟨v.id, v.home, v.mate, v.used, 2, v.parts, v.places, v.pair, v.sum⟩) x.names
  | shut (i : Nat) (v : Vl) (pl : List (Int × Int)) (hv : x.vols[i]? = some v) (hp : v.phase = 2) (hw : wholeP pl v.home = true) : St x (x.vols.set i ⟨v.id, v.home, v.mate, v.used, 3, v.parts, pl, v.pair, v.sum⟩) x.names
  | move (i : Nat) (v : Vl) (q : Nat) (p : Int × Int) (hv : x.vols[i]? = some v) (hp : 3 ≤ v.phase) (hp1 : p.1 = v.home) (hin : p ∉ v.places) : St x (x.vols.set i ⟨v.id, v.home, v.mate, v.used, v.phase, v.parts, v.places.set q p, v.pair, v.sum⟩) x.names
  | pair (i k : Nat) (a b : Vl) (pl : List (Int × Int)) (ha : x.vols[i]? = some a) (hb : x.vols[k]? = some b) (pa : a.phase = 3) (pb : b.phase = 3) (hh : a.home ≠ b.home) (ht : (thirdP a.home b.home).2 = 0) (hw : wholeP pl (thirdP a.home b.home).1 = true) (hl : x.vols.length < 48) :
      St x ((x.vols.set i (pairA a b)).set k (pairB a b) ++ [pairC' (thirdP a.home b.home).1 a b pl]) x.names
  | put (i : Nat) (v : Vl) (c : Cm) (hi : volI x c.vol = i) (hv : x.vols[i]? = some v) (hid : v.id = c.vol) (hp : v.phase = 1) (hn : c.n ≠ 0) (hu : c.off + c.n ≤ v.used) (ho : 0 ≤ c.off ∧ c.off ≤ 1048576) (hn2 : 0 ≤ c.n ∧ c.n ≤ 1048576) (hne : beqS c.name ⟨#[]⟩ = false) : St x (x.vols.set i (addP v c)) (putN x c)
  | drop (k : Nat) (hk : k < x.names.length) : St x x.vols (x.names.take k ++ x.names.drop (k + 1))

structure VolOK (vs : List Vl) (j : Nat) (v : Vl) : Prop where
  ph : 1 ≤ v.phase ∧ v.phase ≤ 5
  id : v.phase ≠ 5 → v.id = j + 1
  sumid : v.phase = 5 → v.id = 1000 + 64 * v.pair + v.sum ∧ (1 ≤ v.pair ∧ v.pair ≤ 48) ∧ (1 ≤ v.sum ∧ v.sum ≤ 48) ∧ ∃ a : Vl, vs[(v.pair - 1).toNat]? = some a ∧ a.phase = 4
  bare : v.phase < 3 → v.places = []
  full : 3 ≤ v.phase → v.places.length = 14 ∧ (∀ p ∈ v.places, p.1 = v.home) ∧ v.places.Nodup
  twin : v.phase = 4 → ∃ (k : Nat) (w : Vl) (m : Nat) (s : Vl), vs[k]? = some w ∧ w.phase = 4 ∧ w.id = v.pair ∧ w.pair = v.id ∧ w.sum = v.sum ∧ w.home ≠ v.home ∧ vs[m]? = some s ∧ s.id = v.sum ∧ s.phase = 5 ∧ s.home + v.home + w.home = 6
  used : 0 ≤ v.used ∧ v.used ≤ 160
  hb : 1 ≤ v.home ∧ v.home ≤ 3

structure Inv (vs : List Vl) : Prop where
  len : vs.length ≤ 48
  ok : ∀ (j : Nat) v, vs[j]? = some v → VolOK vs j v
  uniq : ∀ (j k : Nat) v w, vs[j]? = some v → vs[k]? = some w → v.id = w.id → j = k

theorem wholeP_nodup {l : List (Int × Int)} {r : Int} (h : wholeP l r = true) : l.length = 14 ∧ (∀ p ∈ l, p.1 = r) ∧ l.Nodup := by
  unfold wholeP at h
  rw [Bool.and_eq_true, decide_eq_true_eq] at h
  obtain ⟨h1, h2⟩ := h
  have h3 : ∀ i, i < l.length → wholeAt l r i = true := fun i hi => List.all_eq_true.1 h2 i (List.mem_range.2 hi)
  refine ⟨h1, fun p hp => ?_, ?_⟩
  · obtain ⟨j, hj, e⟩ := List.getElem_of_mem hp
    have := h3 j hj
    unfold wholeAt at this
    rw [Bool.and_eq_true, List.getD_eq_getElem?_getD, List.getElem?_eq_getElem hj] at this
    rw [← e]; simpa using this.1
  · rw [List.nodup_iff_pairwise_ne, List.pairwise_iff_getElem]
    intro i j hi hj hij e
    have := h3 j hj
    unfold wholeAt at this
    rw [Bool.and_eq_true] at this
    have := List.all_eq_true.1 this.2 i (List.mem_range.2 hij)
    rw [List.getD_eq_getElem?_getD, List.getElem?_eq_getElem hi, List.getD_eq_getElem?_getD, List.getElem?_eq_getElem hj] at this
    simp [e] at this

theorem w64_in {z : Int} (h : -9223372036854775808 ≤ z ∧ z ≤ 9223372036854775807) : w64 z = z := by
  unfold w64; exact wrap_in (by simp only [InR]; omega)
theorem sumId_eq {a b : Int} (ha : 0 ≤ a ∧ a ≤ 48) (hb : 0 ≤ b ∧ b ≤ 48) : sumId a b = 1000 + 64 * a + b := by
  unfold sumId
  rw [w64_in (z := 64 * a) (by omega), w64_in (z := 1000 + 64 * a) (by omega), w64_in (by omega)]

theorem get_set_cases {vs : List Vl} {i j : Nat} {w y : Vl} (h : (vs.set i w)[j]? = some y) : (j = i ∧ y = w ∧ i < vs.length) ∨ (j ≠ i ∧ vs[j]? = some y) := by
  rw [List.getElem?_set] at h
  split at h
  · rename_i e
    split at h
    · rename_i hl; exact .inl ⟨e.symm, by simpa using h.symm, by omega⟩
    · cases h
  · rename_i e; exact .inr ⟨fun h' => e h'.symm, h⟩
theorem get_app_cases {vs : List Vl} {j : Nat} {w y : Vl} (h : (vs ++ [w])[j]? = some y) : (j = vs.length ∧ y = w) ∨ (j < vs.length ∧ vs[j]? = some y) := by
  by_cases hj : j < vs.length
  · rw [List.getElem?_append_left hj] at h; exact .inr ⟨hj, h⟩
  · rw [List.getElem?_append_right (by omega)] at h
    have : j - vs.length = 0 := by
      have := (List.getElem?_eq_some_iff.1 h).1
      simp at this; omega
    rw [this] at h
    exact .inl ⟨by omega, by simpa using h.symm⟩

theorem Inv.upd {vs : List Vl} (h : Inv vs) {i : Nat} {v w : Vl} (hv : vs[i]? = some v) (hid : w.id = v.id) (hho : w.home = v.home) (hpr : w.pair = v.pair) (hsm : w.sum = v.sum) (hph : w.phase = v.phase ∨ (v.phase < 4 ∧ w.phase < 4))
    (hp1 : 1 ≤ w.phase) (hb : w.phase < 3 → w.places = []) (hf : 3 ≤ w.phase → w.places.length = 14 ∧ (∀ p ∈ w.places, p.1 = w.home) ∧ w.places.Nodup) (hu : 0 ≤ w.used ∧ w.used ≤ 160) : Inv (vs.set i w) := by
  have hil := (List.getElem?_eq_some_iff.1 hv).1
  have hV := h.ok i v hv
  -- what stood somewhere stands there still, its like
  have like : ∀ (j : Nat) y, vs[j]? = some y → ∃ y', (vs.set i w)[j]? = some y' ∧ y'.id = y.id ∧ y'.home = y.home ∧ y'.pair = y.pair ∧ y'.sum = y.sum ∧ ((4 ≤ y.phase) → y'.phase = y.phase) := by
    intro j y hj
    by_cases e : j = i
    · subst e
      rw [hv] at hj; cases hj
      exact ⟨w, by rw [List.getElem?_set, if_pos rfl, if_pos hil], hid, hho, hpr, hsm, fun h4 => by omega⟩
    · exact ⟨y, by rw [List.getElem?_set, if_neg (Ne.symm e)]; exact hj, rfl, rfl, rfl, rfl, fun _ => rfl⟩
  refine ⟨by rw [List.length_set]; exact h.len, fun j y hj => ?_, fun j k y z hj hk e => ?_⟩
  · have key : ∀ u : Vl, VolOK vs j u → (u.phase = 5 → u.id = 1000 + 64 * u.pair + u.sum ∧ (1 ≤ u.pair ∧ u.pair ≤ 48) ∧ (1 ≤ u.sum ∧ u.sum ≤ 48) ∧ ∃ a : Vl, (vs.set i w)[(u.pair - 1).toNat]? = some a ∧ a.phase = 4) ∧
        (u.phase = 4 → ∃ (k : Nat) (w' : Vl) (m : Nat) (s : Vl), (vs.set i w)[k]? = some w' ∧ w'.phase = 4 ∧ w'.id = u.pair ∧ w'.pair = u.id ∧ w'.sum = u.sum ∧ w'.home ≠ u.home ∧ (vs.set i w)[m]? = some s ∧ s.id = u.sum ∧ s.phase = 5 ∧ s.home + u.home + w'.home = 6) := by
      intro u hu'
      refine ⟨fun h5 => ?_, fun h4 => ?_⟩
      · obtain ⟨q1, q2, q3, a, q4, q5⟩ := hu'.sumid h5
        obtain ⟨a', r1, _, _, _, _, r6⟩ := like _ _ q4
        exact ⟨q1, q2, q3, a', r1, by rw [r6 (by omega)]; exact q5⟩
      · obtain ⟨k, w', m, s, q1, q0, q2, q3, q4, q5, q6, q7, q8, q9⟩ := hu'.twin h4
        obtain ⟨a', r1, r2, r3, r4, r5, r6⟩ := like _ _ q1
        obtain ⟨s', t1, t2, t3, t4, t5, t6⟩ := like _ _ q6
        exact ⟨k, a', m, s', r1, by rw [r6 (by omega)]; exact q0, by rw [r2]; exact q2, by rw [r4]; exact q3, by rw [r5]; exact q4, by rw [r3]; exact q5, t1, by rw [t2]; exact q7, by rw [t6 (by omega)]; exact q8, by rw [t3, r3]; exact q9⟩
    rcases get_set_cases hj with ⟨rfl, rfl, _⟩ | ⟨hne, hj⟩
    · obtain ⟨k1, k2⟩ := key v hV
      have hw5 : y.phase = 5 → v.phase = 5 := fun h5 => by rcases hph with h | h <;> omega
      have hw4 : y.phase = 4 → v.phase = 4 := fun h5 => by rcases hph with h | h <;> omega
      have hle : y.phase ≤ 5 := by have := hV.ph; rcases hph with h | h <;> omega
      refine ⟨⟨hp1, hle⟩, fun h5 => ?_, fun h5 => ?_, hb, hf, fun h4 => ?_, hu, by rw [hho]; exact hV.hb⟩
      · rw [hid]; exact hV.id (by rcases hph with h | h <;> omega)
      · rw [hid, hpr, hsm]; exact k1 (hw5 h5)
      · rw [hid, hpr, hsm, hho]; exact k2 (hw4 h4)
    · have hY := h.ok j y hj
      obtain ⟨k1, k2⟩ := key y hY
      exact ⟨hY.ph, hY.id, k1, hY.bare, hY.full, k2, hY.used, hY.hb⟩
  · have back : ∀ (j : Nat) y, (vs.set i w)[j]? = some y → ∃ y', vs[j]? = some y' ∧ y'.id = y.id := fun j y hj => by
      rcases get_set_cases hj with ⟨rfl, rfl, _⟩ | ⟨_, hj⟩
      · exact ⟨v, hv, hid.symm⟩
      · exact ⟨y, hj, rfl⟩
    obtain ⟨y', a1, a2⟩ := back j y hj
    obtain ⟨z', b1, b2⟩ := back k z hk
    exact h.uniq j k y' z' a1 b1 (by rw [a2, b2]; exact e)

end Go.Proofs.Ytbjmafbbjhoddaa.Pv
