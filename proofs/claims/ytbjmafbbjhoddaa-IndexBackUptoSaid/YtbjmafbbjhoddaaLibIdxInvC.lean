/- What only grows; names rise, each has bytes that its volume gave away. -/
import Derived.Test.YtbjmafbbjhoddaaLibIdxInvB
import Derived.Sort.Walk0
namespace Go.Proofs.Ytbjmafbbjhoddaa.Pv
open Go
set_option linter.unusedVariables false
set_option linter.unusedSimpArgs false
set_option maxRecDepth 100000

def Up (vs ws : List Vl) : Prop := ∀ (j : Nat) (v : Vl), vs[j]? = some v → ∃ w : Vl, ws[j]? = some w ∧ w.id = v.id ∧ w.home = v.home ∧ v.phase ≤ w.phase ∧ v.used ≤ w.used ∧ v.parts.length ≤ w.parts.length ∧ (2 ≤ v.phase → w.parts.length = v.parts.length) ∧ ∀ p ∈ v.parts, p ∈ w.parts
theorem Up.refl (vs : List Vl) : Up vs vs := fun j v h => ⟨v, h, rfl, rfl, Int.le_refl _, Int.le_refl _, Nat.le_refl _, fun _ => rfl, fun p h => h⟩
theorem Up.trans {a b c : List Vl} (h : Up a b) (k : Up b c) : Up a c := fun j v hv => by
  obtain ⟨w, h1, h2, h3, h4, h5, h6, h7, h8⟩ := h j v hv
  obtain ⟨u, k1, k2, k3, k4, k5, k6, k7, k8⟩ := k j w h1
  exact ⟨u, k1, by rw [k2, h2], by rw [k3, h3], by omega, by omega, by omega, fun hp => by rw [k7 (by omega), h7 hp], fun p hp => k8 p (h8 p hp)⟩
theorem Up.set {vs : List Vl} {i : Nat} {v w : Vl} (hv : vs[i]? = some v) (h2 : w.id = v.id) (h3 : w.home = v.home) (h4 : v.phase ≤ w.phase) (h5 : v.used ≤ w.used) (h6 : v.parts.length ≤ w.parts.length) (h7 : 2 ≤ v.phase → w.parts.length = v.parts.length) (h8 : ∀ p ∈ v.parts, p ∈ w.parts) : Up vs (vs.set i w) := fun j y hj => by
  by_cases e : j = i
  · subst e
    rw [hv] at hj; cases hj
    exact ⟨w, by rw [List.getElem?_set, if_pos rfl, if_pos (List.getElem?_eq_some_iff.1 hv).1], h2, h3, h4, h5, h6, h7, h8⟩
  · obtain ⟨w', k⟩ := Up.refl vs j y hj
    exact ⟨w', by rw [List.getElem?_set, if_neg (Ne.symm e)]; exact k.1, k.2⟩
theorem Up.app (vs : List Vl) (w : Vl) : Up vs (vs ++ [w]) := fun j y hj => by
  obtain ⟨w', k⟩ := Up.refl vs j y hj
  exact ⟨w', by rw [List.getElem?_append_left (List.getElem?_eq_some_iff.1 hj).1]; exact k.1, k.2⟩

theorem St.up {x : Ix} {vs : List Vl} {ns : List Nm} (h : St x vs ns) (hi : Inv x.vols) : Up x.vols vs := by
  cases h with
  | same => exact .refl _
  | drop k hk => exact .refl _
  | app h m hh hl => exact .app _ _
  | res i v n hv hp hn hu =>
    have hus := (hi.ok i v hv).used
    have e : w64 (v.used + n) = v.used + n := w64_in (by omega)
    exact .set hv rfl rfl (Int.le_refl _) (by show v.used ≤ w64 _; rw [e]; omega) (Nat.le_refl _) (fun _ => rfl) fun p h => h
  | lock i v hv hp => exact .set hv rfl rfl (by show v.phase ≤ 2; omega) (Int.le_refl _) (Nat.le_refl _) (fun _ => rfl) fun p h => h
  | shut i v pl hv hp hw => exact .set hv rfl rfl (by show v.phase ≤ 3; omega) (Int.le_refl _) (Nat.le_refl _) (fun _ => rfl) fun p h => h
  | move i v q p hv hp hp1 hin => exact .set hv rfl rfl (Int.le_refl _) (Int.le_refl _) (Nat.le_refl _) (fun _ => rfl) fun p h => h
  | put i v c hi' hv hid hp hn hu ho hn2 hne =>
    exact .set hv rfl rfl (Int.le_refl _) (Int.le_refl _) (by simp [addP]) (fun h => by omega) fun p h => List.mem_append.2 (.inl h)
  | pair i k a b pl ha hb pa pb hh ht hw hl =>
    have hik : i ≠ k := fun e => by subst e; rw [ha] at hb; cases hb; exact hh rfl
    have s1 : Up x.vols (x.vols.set i (pairA a b)) := .set ha rfl rfl (by show a.phase ≤ 4; omega) (Int.le_refl _) (Nat.le_refl _) (fun _ => rfl) fun p h => h
    have hb' : (x.vols.set i (pairA a b))[k]? = some b := by rw [List.getElem?_set, if_neg hik]; exact hb
    have s2 : Up (x.vols.set i (pairA a b)) ((x.vols.set i (pairA a b)).set k (pairB a b)) := .set hb' rfl rfl (by show b.phase ≤ 4; omega) (Int.le_refl _) (Nat.le_refl _) (fun _ => rfl) fun p h => h
    exact (s1.trans s2).trans (.app _ _)

theorem ltS_iff {a b : ByteArray} : ltS a b = true ↔ a.data.toList < b.data.toList := by
  unfold ltS; rw [bytesLess_eq, decide_eq_true_eq]
theorem ltS_trans {a b c : ByteArray} (h : ltS a b = true) (k : ltS b c = true) : ltS a c = true := by
  rw [ltS_iff] at *; exact List.lt_trans h k
theorem gtN_of {s : ByteArray} {y : Nm} (h1 : gtN s y = false) (h2 : beqS y.name s = false) : ltS y.name s = true := by
  unfold gtN at h1; rw [h2, Bool.or_false] at h1; simpa using h1
theorem gtN_lt {s : ByteArray} {y : Nm} (h : gtN s y = true) : ltS s y.name = true := by
  unfold gtN at h
  rw [Bool.not_eq_true', Bool.or_eq_false_iff] at h
  rw [ltS_iff]
  have h1 : ¬ y.name.data.toList < s.data.toList := fun e => by rw [← ltS_iff] at e; rw [e] at h; cases h.1
  rcases Std.le_total (α := List UInt8) (a := s.data.toList) (b := y.name.data.toList) with h3 | h3
  · rcases Std.le_iff_lt_or_eq.1 h3 with h4 | h4
    · exact h4
    · exfalso
      have : y.name = s := by
        cases hy : y.name; cases s; rw [hy] at h4; simp only [ByteArray.mk.injEq]; exact (Array.toList_inj.1 h4).symm
      rw [this, beqS_iff.2 rfl] at h; cases h.2
  · rcases Std.le_iff_lt_or_eq.1 h3 with h4 | h4
    · exact absurd h4 h1
    · exfalso
      have : y.name = s := by
        cases hy : y.name; cases s; rw [hy] at h4; simp only [ByteArray.mk.injEq]; exact (Array.toList_inj.1 h4)
      rw [this, beqS_iff.2 rfl] at h; cases h.2

def NmOK (vs : List Vl) (n : Nm) : Prop := beqS n.name ⟨#[]⟩ = false ∧ (0 ≤ n.off ∧ n.off ≤ 1048576) ∧ (0 ≤ n.n ∧ n.n ≤ 1048576) ∧ ∃ (j : Nat) (v : Vl), vs[j]? = some v ∧ v.id = n.vol ∧ (n.off, n.n) ∈ v.parts ∧ n.off + n.n ≤ v.used
structure InvN (vs : List Vl) (ns : List Nm) : Prop where
  ok : ∀ n ∈ ns, NmOK vs n
  rise : ∀ (i j : Nat) (a b : Nm), i < j → ns[i]? = some a → ns[j]? = some b → ltS a.name b.name = true
theorem NmOK.up {vs ws : List Vl} {n : Nm} (h : NmOK vs n) (u : Up vs ws) : NmOK ws n := by
  obtain ⟨h1, h2, h3, j, v, h4, h5, h6, h7⟩ := h
  obtain ⟨w, k1, k2, k3, k4, k5, k6, k7, k8⟩ := u j v h4
  exact ⟨h1, h2, h3, j, w, k1, by rw [k2]; exact h5, k8 _ h6, by omega⟩
theorem InvN.up {vs ws : List Vl} {ns : List Nm} (h : InvN vs ns) (u : Up vs ws) : InvN ws ns := ⟨fun n hn => (h.ok n hn).up u, h.rise⟩

theorem insI_get {ns : List Nm} {g j : Nat} {v y : Nm} (hg : g ≤ ns.length) (h : (insI ns g v)[j]? = some y) : (j < g ∧ ns[j]? = some y) ∨ (j = g ∧ y = v) ∨ (g < j ∧ ns[j - 1]? = some y) := by
  unfold insI at h
  have hl : (ns.take g).length = g := by rw [List.length_take]; omega
  by_cases h1 : j < g
  · rw [List.getElem?_append_left (by omega), List.getElem?_take, if_pos h1] at h; exact .inl ⟨h1, h⟩
  · rw [List.getElem?_append_right (by omega), hl] at h
    by_cases h2 : j = g
    · subst h2; rw [Nat.sub_self, List.getElem?_cons_zero] at h; exact .inr (.inl ⟨rfl, by simpa using h.symm⟩)
    · rw [show j - g = (j - g - 1) + 1 by omega, List.getElem?_cons_succ, List.getElem?_drop, show g + (j - g - 1) = j - 1 by omega] at h
      exact .inr (.inr ⟨by omega, h⟩)

theorem InvN.put {vs : List Vl} {x : Ix} {c : Cm} (h : InvN vs x.names) (hn : NmOK vs (newN c)) : InvN vs (putN x c) := by
  unfold putN
  split
  · rename_i h0
    rcases idx_cases (fun n : Nm => beqS n.name c.name) x.names with ⟨e, _⟩ | ⟨q, y, e1, e2, e3, _⟩
    · unfold nameI at h0; omega
    · have hq : nameI x c.name = q := e1
      rw [hq, Int.toNat_natCast]
      have hy : y.name = c.name := beqS_iff.1 e3
      have back : ∀ (j : Nat) z, (x.names.set q (newN c))[j]? = some z → ∃ z', x.names[j]? = some z' ∧ z'.name = z.name := by
        intro j z hj
        rw [List.getElem?_set] at hj
        split at hj
        · rename_i e
          split at hj
          · cases hj; subst e; exact ⟨y, e2, hy⟩
          · cases hj
        · exact ⟨z, hj, rfl⟩
      refine ⟨fun n hm => ?_, fun i j a b hij ha hb => ?_⟩
      · rcases List.mem_or_eq_of_mem_set hm with hm | rfl
        · exact h.ok n hm
        · exact hn
      · obtain ⟨a', k1, k2⟩ := back i a ha
        obtain ⟨b', m1, m2⟩ := back j b hb
        rw [← k2, ← m2]; exact h.rise i j a' b' hij k1 m1
  · rename_i h0
    have hno : ∀ n ∈ x.names, beqS n.name c.name = false := by
      rcases idx_cases (fun n : Nm => beqS n.name c.name) x.names with ⟨_, e⟩ | ⟨q, y, e1, e2, e3, _⟩
      · exact e
      · unfold nameI at h0; omega
    generalize hgd : (if idxI (gtN c.name) x.names < 0 then x.names.length else (idxI (gtN c.name) x.names).toNat) = g
    have hgs : g ≤ x.names.length ∧ (∀ (j : Nat) y, j < g → x.names[j]? = some y → gtN c.name y = false) ∧ (∀ y, x.names[g]? = some y → gtN c.name y = true) := by
      rcases idx_cases (gtN c.name) x.names with ⟨e, e2⟩ | ⟨q, y, e1, e2, e3, e4⟩
      · rw [if_pos (by omega)] at hgd
        subst hgd
        exact ⟨Nat.le_refl _, fun j y _ hy => e2 y (List.mem_of_getElem? hy), fun y hy => by rw [List.getElem?_eq_none (Nat.le_refl _)] at hy; cases hy⟩
      · rw [if_neg (by omega), e1, Int.toNat_natCast] at hgd
        subst hgd
        exact ⟨Nat.le_of_lt (List.getElem?_eq_some_iff.1 e2).1, fun j y hj hy => e4 j y hj hy, fun z hz => by rw [e2] at hz; cases hz; exact e3⟩
    obtain ⟨g1, g2, g3⟩ := hgs
    have low : ∀ (j : Nat) y, j < g → x.names[j]? = some y → ltS y.name (newN c).name = true := fun j y hj hy => gtN_of (g2 j y hj hy) (hno y (List.mem_of_getElem? hy))
    have high : ∀ (j : Nat) y, g ≤ j → x.names[j]? = some y → ltS (newN c).name y.name = true := fun j y hj hy => by
      have hgl : g < x.names.length := by have := (List.getElem?_eq_some_iff.1 hy).1; omega
      have hz : x.names[g]? = some x.names[g] := List.getElem?_eq_getElem hgl
      have h1 := gtN_lt (g3 _ hz)
      by_cases e : j = g
      · subst e; rw [hz] at hy; cases hy; exact h1
      · exact ltS_trans h1 (h.rise g j _ y (by omega) hz hy)
    refine ⟨fun n hm => ?_, fun i j a b hij ha hb => ?_⟩
    · obtain ⟨j, hj⟩ := List.getElem?_of_mem hm
      rcases insI_get g1 hj with ⟨_, k⟩ | ⟨_, k⟩ | ⟨_, k⟩
      · exact h.ok n (List.mem_of_getElem? k)
      · rw [k]; exact hn
      · exact h.ok n (List.mem_of_getElem? k)
    · rcases insI_get g1 ha with ⟨i1, k⟩ | ⟨i1, k⟩ | ⟨i1, k⟩ <;> rcases insI_get g1 hb with ⟨j1, m⟩ | ⟨j1, m⟩ | ⟨j1, m⟩
      · exact h.rise i j a b hij k m
      · rw [m]; exact low i a i1 k
      · exact h.rise i (j - 1) a b (by omega) k m
      · omega
      · omega
      · rw [k]; exact high (j - 1) b (by omega) m
      · omega
      · omega
      · exact h.rise (i - 1) (j - 1) a b (by omega) k m

theorem InvN.drop {vs : List Vl} {ns : List Nm} (h : InvN vs ns) {k : Nat} (hk : k < ns.length) : InvN vs (ns.take k ++ ns.drop (k + 1)) := by
  have hl : (ns.take k).length = k := by rw [List.length_take]; omega
  have get : ∀ (j : Nat) y, (ns.take k ++ ns.drop (k + 1))[j]? = some y → ns[if j < k then j else j + 1]? = some y := by
    intro j y hj
    by_cases e : j < k
    · rw [if_pos e]
      rw [List.getElem?_append_left (by omega), List.getElem?_take, if_pos e] at hj; exact hj
    · rw [if_neg e]
      rw [List.getElem?_append_right (by omega), hl, List.getElem?_drop, show k + 1 + (j - k) = j + 1 by omega] at hj; exact hj
  refine ⟨fun n hm => ?_, fun i j a b hij ha hb => ?_⟩
  · obtain ⟨j, hj⟩ := List.getElem?_of_mem hm
    exact h.ok n (List.mem_of_getElem? (get j n hj))
  · refine h.rise _ _ a b ?_ (get i a ha) (get j b hb)
    split <;> split <;> omega

theorem St.names {x : Ix} {vs : List Vl} {ns : List Nm} (h : St x vs ns) (hi : Inv x.vols) (hn : InvN x.vols x.names) : InvN vs ns := by
  have hu := h.up hi
  cases h with
  | drop k hk => exact hn.drop hk
  | put i v c hi' hv hid hp hc hus ho hn2 hne =>
    refine (hn.up hu).put ⟨hne, ho, hn2, i, addP v c, ?_, hid, ?_, hus⟩
    · rw [List.getElem?_set, if_pos rfl, if_pos (List.getElem?_eq_some_iff.1 hv).1]
    · show (c.off, c.n) ∈ v.parts ++ [(c.off, c.n)]
      simp
  | _ => exact hn.up hu

end Go.Proofs.Ytbjmafbbjhoddaa.Pv
