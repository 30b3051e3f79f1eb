
/- Facts of a log: places rise, numbers of one client rise; plain. -/
import Derived.Test.YtbpjaiemlkcccaaLibK11
import Derived.Test.YtbpjaiemlkcccaaLibIdxTwice
namespace Go.Proofs.Ytbpjaiemlkcccaa.Pv
open Go
set_option linter.unusedVariables false
set_option linter.unusedSimpArgs false
set_option maxRecDepth 100000

abbrev ofC (k : Int) : Ss → Bool := fun s => s.client == k
theorem ak9 {l : List Ss} {k : Int} {s : Ss} (h : s.client = k) : (ql l (qc (ofC k) l) s).find? (ofC k) = some s := by
  obtain ⟨j, h1, h2, h3⟩ := at0 (p := ofC k) (l := l) (s := s) (by simp [ofC, h])
  obtain ⟨f1, f2⟩ := amo (ofC k) (ql l (qc (ofC k) l) s)
  unfold abq at f1
  rw [h1, if_neg (by omega), Int.toNat_natCast, h3] at f1
  rw [h1, decide_eq_true (by omega)] at f2
  cases hf : (ql l (qc (ofC k) l) s).find? (ofC k) with
  | none => rw [hf] at f2; cases f2
  | some t => rw [hf] at f1; rw [f1]; rfl
theorem amf {l : List Ss} {k k' : Int} {s : Ss} (h : s.client = k) (hk : k' ≠ k) : (ql l (qc (ofC k) l) s).find? (ofC k') = l.find? (ofC k') := by
  have hs : ofC k' s = false := by simp only [ofC, beq_eq_false_iff_ne]; omega
  rcases abg (ofC k) l with ⟨e, _⟩ | ⟨i, y, e1, e2, e3, e4⟩
  · rw [e, show ql l (-1) s = l ++ [s] from if_pos (by omega), List.find?_append]
    simp [hs]
  · have hil := (List.getElem?_eq_some_iff.1 e2).1
    have hy : l[i] = y := (List.getElem?_eq_some_iff.1 e2).2
    have hyk : ofC k' y = false := by
      simp only [ofC, beq_iff_eq] at e3
      simp only [ofC, beq_eq_false_iff_ne]; omega
    rw [e1, show ql l (i : Int) s = l.set i s by unfold ql; rw [if_neg (by omega), Int.toNat_natCast]]
    rw [List.set_eq_take_append_cons_drop, if_pos hil]
    conv => rhs; rw [← List.take_append_drop i l, List.drop_eq_getElem_cons hil, hy]
    rw [List.find?_append, List.find?_append, List.find?_cons, List.find?_cons, hs, hyk]

theorem akp (x : Ix) (k : Int) : (0 ≤ uw x k ∧ x.last.find? (ofC k) = some (ad8 x k)) ∨ (uw x k < 0 ∧ x.last.find? (ofC k) = none) := by
  obtain ⟨f1, f2⟩ := amo (ofC k) x.last
  cases hf : x.last.find? (ofC k) with
  | none =>
    rw [hf] at f2
    have : ¬ 0 ≤ qc (ofC k) x.last := of_decide_eq_false f2
    exact .inr ⟨by show qc (ofC k) x.last < 0; omega, rfl⟩
  | some t =>
    rw [hf] at f2 f1
    have h0 : 0 ≤ qc (ofC k) x.last := of_decide_eq_true f2
    exact .inl ⟨h0, congrArg some f1.symm⟩

theorem asv {x : Ix} {c : Cm} (hm : vk c = true) (k : Int) (s : Ss) (h : x.last.find? (ofC k) = some s) : ∃ s', (doX x c).1.last.find? (ofC k) = some s' ∧ s.seq ≤ s'.seq := by
  have hm' : ¬ vk c = false := by rw [hm]; decide
  unfold doX
  rw [if_neg hm']
  split
  · exact ⟨s, h, Int.le_refl _⟩
  rename_i n1
  split
  · exact ⟨s, h, Int.le_refl _⟩
  rename_i n2
  split
  · rename_i hc
    rw [ae5]
    dsimp only
    by_cases hk : k = c.client
    · subst hk
      refine ⟨_, ak9 rfl, ?_⟩
      show s.seq ≤ c.seq
      rcases akp x c.client with ⟨g1, g2⟩ | ⟨g1, g2⟩
      · have hs : s = ad8 x c.client := by rw [h] at g2; exact Option.some.inj g2
        have hg : x.last.getD (uw x c.client).toNat default = s := by rw [hs]; exact (agy (by omega)).symm
        rw [hg] at n1 n2
        rcases Int.lt_or_le c.seq s.seq with h9 | h9
        · exact absurd ⟨hc, g1, h9⟩ n2
        · exact h9
      · rw [h] at g2; cases g2
    · exact ⟨s, (amf (l := x.last) (k := c.client) (k' := k) (s := akl c (vz x c).2) rfl hk).trans h, Int.le_refl _⟩
  · rw [ae5]; exact ⟨s, h, Int.le_refl _⟩
theorem as7 {x : Ix} {c : Cm} (hm : vk c = true) (h : afd x c = true) : ∃ s', (doX x c).1.last.find? (ofC c.client) = some s' ∧ s'.seq = c.seq := by
  have hm' : ¬ vk c = false := by rw [hm]; decide
  simp only [afd, Bool.and_eq_true, decide_eq_true_eq, Bool.or_eq_true, Bool.not_eq_true', decide_eq_false_iff_not] at h
  obtain ⟨hc, h⟩ := h
  have hn : ¬ (0 < c.client ∧ 0 ≤ uw x c.client ∧ (x.last.getD (uw x c.client).toNat default).seq = c.seq) := by
    rintro ⟨_, g1, g2⟩
    rcases h with h | h
    · exact h g1
    · rw [agy (by omega)] at h; omega
  have hn2 : ¬ (0 < c.client ∧ 0 ≤ uw x c.client ∧ c.seq < (x.last.getD (uw x c.client).toNat default).seq) := by
    rintro ⟨_, g1, g2⟩
    rcases h with h | h
    · exact h g1
    · rw [agy (by omega)] at h; omega
  unfold doX
  rw [if_neg hm', if_neg hn, if_neg hn2, if_pos hc, ae5]
  exact ⟨_, ak9 rfl, rfl⟩

structure FactsOK (X : Ix) (F : List Ft) (n : Nat) : Prop where
  rng : ∀ f ∈ F, 1 ≤ f.at_ ∧ f.at_ ≤ n ∧ 1 ≤ f.client
  pw : F.Pairwise fun a b => a.at_ < b.at_ ∧ (a.client = b.client → a.seq < b.seq)
  last : ∀ f ∈ F, ∃ s, X.last.find? (ofC f.client) = some s ∧ f.seq ≤ s.seq
theorem agf (l : List ByteArray) : ∀ i, FactsOK (uh l i).1 (uh l i).2 i
  | 0 => ⟨fun f hf => (by cases hf), List.Pairwise.nil, fun f hf => (by cases hf)⟩
  | i + 1 => by
    have ih := agf l i
    rw [uh, stepT]
    cases hc : takeC (l.getD i default) with
    | none => exact ⟨fun f hf => by have := ih.rng f hf; omega, ih.pw, ih.last⟩
    | some c =>
      dsimp only
      obtain ⟨hm, _, _⟩ := am9 hc
      have keep : ∀ f ∈ (uh l i).2, ∃ s, (doX (uh l i).1 c).1.last.find? (ofC f.client) = some s ∧ f.seq ≤ s.seq := fun f hf => by
        obtain ⟨s, h1, h2⟩ := ih.last f hf
        obtain ⟨s', h3, h4⟩ := asv hm _ s h1
        exact ⟨s', h3, by omega⟩
      by_cases hr : afd (uh l i).1 c = true
      · rw [if_pos hr]
        have hcl : 0 < c.client := by simp only [afd, Bool.and_eq_true, decide_eq_true_eq] at hr; exact hr.1
        refine ⟨fun f hf => ?_, ?_, fun f hf => ?_⟩
        · rcases List.mem_append.1 hf with hf | hf
          · have := ih.rng f hf; omega
          · rw [List.mem_singleton.1 hf]
            show 1 ≤ (i : Int) + 1 ∧ (i : Int) + 1 ≤ ((i + 1 : Nat) : Int) ∧ 1 ≤ c.client
            omega
        · rw [List.pairwise_append]
          refine ⟨ih.pw, List.pairwise_singleton _ _, fun a ha b hb => ?_⟩
          rw [List.mem_singleton.1 hb]
          refine ⟨?_, fun he => ?_⟩
          · have := ih.rng a ha
            show a.at_ < (i : Int) + 1
            omega
          · have he : a.client = c.client := he
            obtain ⟨s, h1, h2⟩ := ih.last a ha
            rw [he] at h1
            show a.seq < c.seq
            simp only [afd, Bool.and_eq_true, decide_eq_true_eq, Bool.or_eq_true, Bool.not_eq_true', decide_eq_false_iff_not] at hr
            rcases akp (uh l i).1 c.client with ⟨g1, g2⟩ | ⟨g1, g2⟩
            · have hs : s = ad8 (uh l i).1 c.client := by rw [h1] at g2; exact Option.some.inj g2
              rw [← hs] at hr
              rcases hr.2 with h | h
              · exact absurd g1 h
              · omega
            · rw [h1] at g2; cases g2
        · rcases List.mem_append.1 hf with hf | hf
          · exact keep f hf
          · rw [List.mem_singleton.1 hf]
            obtain ⟨s', h3, h4⟩ := as7 hm hr
            exact ⟨s', h3, by rw [h4]; exact Int.le_refl _⟩
      · rw [if_neg hr]
        exact ⟨fun f hf => by have := ih.rng f hf; omega, ih.pw, keep⟩

theorem azb {l : List ByteArray} {k i : Nat} (hk : k < i) (hi : i < (aaj l).2.length) : ((aaj l).2.getD k default).at_ < ((aaj l).2.getD i default).at_ ∧ (((aaj l).2.getD k default).client = ((aaj l).2.getD i default).client → ((aaj l).2.getD k default).seq < ((aaj l).2.getD i default).seq) := by
  have := List.pairwise_iff_getElem.1 (agf l l.length).pw k i (by show k < (aaj l).2.length; omega) hi hk
  rw [List.getD_eq_getElem?_getD, List.getD_eq_getElem?_getD, List.getElem?_eq_getElem (by omega), List.getElem?_eq_getElem hi]
  exact this

theorem al5 (l : List ByteArray) : ∀ j i, ∃ G, (uh l (i + j)).2 = (uh l i).2 ++ G ∧ ∀ f ∈ G, (i : Int) < f.at_
  | 0, i => ⟨[], by rw [Nat.add_zero, List.append_nil], fun f hf => (by cases hf)⟩
  | j + 1, i => by
    obtain ⟨G, h1, h2⟩ := al5 l j i
    rw [show i + (j + 1) = (i + j) + 1 by omega, uh, stepT]
    cases hc : takeC (l.getD (i + j) default) with
    | none => exact ⟨G, h1, h2⟩
    | some c =>
      dsimp only
      split
      · refine ⟨G ++ [as3 (i + j) c (doX (uh l (i + j)).1 c).2], by rw [h1, List.append_assoc], fun f hf => ?_⟩
        rcases List.mem_append.1 hf with hf | hf
        · exact h2 f hf
        · rw [List.mem_singleton.1 hf]
          show (i : Int) < ((i + j : Nat) : Int) + 1
          omega
      · exact ⟨G, h1, h2⟩
theorem aqw (l m : List ByteArray) : ∃ G, (aaj (l ++ m)).2 = (aaj l).2 ++ G ∧ ∀ f ∈ G, (l.length : Int) < f.at_ := by
  obtain ⟨G, h1, h2⟩ := al5 (l ++ m) m.length l.length
  have e : uh (l ++ m) l.length = uh l l.length := aiy fun j hj => by
    rw [List.getD_eq_getElem?_getD, List.getD_eq_getElem?_getD, List.getElem?_append_left hj]
  refine ⟨G, ?_, h2⟩
  show (uh (l ++ m) (l ++ m).length).2 = _
  rw [List.length_append, h1, e]; rfl

end Go.Proofs.Ytbpjaiemlkcccaa.Pv
