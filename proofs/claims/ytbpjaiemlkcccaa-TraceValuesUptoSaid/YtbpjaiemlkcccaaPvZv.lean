/- A call that turns one box: for the call the box is put behind the others, and back. -/
import Derived.Test.YtbpjaiemlkcccaaPvM3
namespace Go.Proofs.Ytbpjaiemlkcccaa.Pv
open Go
set_option linter.unusedVariables false
set_option linter.unusedSimpArgs false

section
variable {n m : Nat} {F : Fr} {G : Gh} {env : Env} {σ : Sto} {a : Act} {w : World}

theorem atw {v : Value} {p p' : PV} {k : Nat} (G' : Gh) (hr : Rep G w v p) (hlt : p.lt σ.length) (hp : p' = p ∨ ∃ off, p = .ptr k off ∧ p' = .ptr σ.length off)
    (hle : wh G.K w G'.K w) (hbs : ∀ i, i < σ.length → G'.bs i = G.bs i) (hN : G'.bs σ.length = G.bs k) (hown : ∀ b, (G.K b = .own ∨ ∃ q, G.K b = .imm q) → G'.K b = G.K b)
    (hkind : ∀ j b, o8 v p j = some b → G.K b = .own ∨ ∃ q, G.K b = .imm q) : Rep G' w v p' := by
  rcases hp with rfl | ⟨off, rfl, rfl⟩
  · exact hr.mono hle hbs hlt fun j b hb => ⟨rfl, hown b (hkind j b hb)⟩
  · have : RepS G w v (.ptr k off) := by
      cases hr with
      | one h => exact h.toS rfl
    have hv : v = .pointer (some ⟨G.bs k, off, none⟩) := by
      cases this with
      | pl h => cases h
      | ptr _ _ => rfl
    subst hv
    rw [← hN]
    exact .one (.sh (.ptr _ _))

theorem Sim.moveOut (h : Sim n m F G env σ a w) {k : Nat} {cs : List PV} (hk : σ[k]? = some (.cells cs)) {env' : Env}
    (he : ∀ t, look env' t = look env t ∨ ∃ off, look env t = .ptr k off ∧ look env' t = .ptr σ.length off) :
    Sim n (σ.set k .gone ++ [Ent.cells cs]).length F ⟨upd G.K (G.bs k).b (.box σ.length), upd G.bs σ.length (G.bs k)⟩ env' (σ.set k .gone ++ [.cells cs]) a w := by
  have hkl : k < σ.length := (List.getElem?_eq_some_iff.1 hk).1
  have hK := ah9 h hk
  have hK' : ∀ b, G.K b ≠ .box k → upd G.K (G.bs k).b (.box σ.length) b = G.K b := fun b hb => upd_ne _ _ fun e => hb (by rw [e]; exact hK)
  have hle : wh G.K w (upd G.K (G.bs k).b (.box σ.length)) w := fun b p hb => ⟨p, ⟨Nat.le_refl _, rfl⟩, by rw [hK' b (by rw [hb]; simp)]; exact hb, fun _ _ => rfl⟩
  have hbs : ∀ i, i < σ.length → upd G.bs σ.length (G.bs k) i = G.bs i := fun i hi => upd_ne _ _ (by omega)
  have hown : ∀ b, (G.K b = .own ∨ ∃ q, G.K b = .imm q) → upd G.K (G.bs k).b (.box σ.length) b = G.K b := fun b hb => hK' b (by rcases hb with hb | ⟨q, hb⟩ <;> rw [hb] <;> simp)
  have hget : ∀ (i : Nat) e, (σ.set k .gone ++ [Ent.cells cs])[i]? = some e → (i = σ.length ∧ e = .cells cs) ∨ (i = k ∧ e = .gone) ∨ (i ≠ k ∧ i < σ.length ∧ σ[i]? = some e) := by
    intro i e hi
    by_cases h1 : i < σ.length
    · rw [List.getElem?_append_left (by rw [List.length_set]; exact h1), List.getElem?_set] at hi
      split at hi
      · rename_i e'; subst e'
        first
          | (cases hi; exact .inr (.inl ⟨rfl, rfl⟩))
          | (split at hi
             · cases hi; exact .inr (.inl ⟨rfl, rfl⟩)
             · cases hi)
      · rename_i e'; exact .inr (.inr ⟨fun e => e' e.symm, h1, hi⟩)
    · rw [List.getElem?_append_right (by rw [List.length_set]; omega), List.length_set] at hi
      have h2 : i - σ.length = 0 := by
        have := (List.getElem?_eq_some_iff.1 hi).1
        simp at this; omega
      rw [h2] at hi
      simp at hi
      exact .inl ⟨by omega, hi.symm⟩
  have hlen : (σ.set k .gone ++ [Ent.cells cs]).length = σ.length + 1 := by simp
  have hsl : ∀ t j, o8 (a.tmps.getD t undef) (look env' t) j = o8 (a.tmps.getD t undef) (look env t) j := by
    intro t j
    rcases he t with e | ⟨off, e1, e2⟩
    · rw [e]
    · have z : ∀ (v : Value) (i : Nat), o8 v (.ptr i off) j = none := by
        intro v i
        unfold o8
        cases v <;> simp [ownB]
      rw [e1, e2, z, z]
  let f : Loc → Loc := fun l => match l with
    | .slot t j => .slot t j
    | .cell i j => if i = σ.length then .cell k j else .cell i j
  have key : ∀ l b, nz ⟨upd G.K (G.bs k).b (.box σ.length), upd G.bs σ.length (G.bs k)⟩ env' (σ.set k .gone ++ [.cells cs]) a.tmps w l = some b → nz G env σ a.tmps w (f l) = some b ∧ ∀ j, l ≠ .cell k j := by
    intro l b hl
    cases l with
    | slot t j => simp only [nz] at hl ⊢; rw [hsl] at hl; exact ⟨hl, fun _ e => by cases e⟩
    | cell i j =>
      simp only [nz] at hl
      cases hi : (σ.set k .gone ++ [Ent.cells cs])[i]? with
      | none => rw [hi] at hl; cases hl
      | some e =>
        rw [hi] at hl
        rcases hget i e hi with ⟨rfl, rfl⟩ | ⟨rfl, rfl⟩ | ⟨h1, h2, h3⟩
        · refine ⟨?_, fun j' e => by injection e with e1 _; omega⟩
          simp only [f, if_true, nz, hk]
          rw [upd_same] at hl
          exact hl
        · cases hl
        · refine ⟨?_, fun j' e => by injection e with e1 _; exact h1 e1⟩
          simp only [f, if_neg (show ¬ i = σ.length by omega), nz, h3]
          rw [hbs i h2] at hl
          exact hl
  have finj : ∀ l1 l2, f l1 = f l2 → (∀ j, l1 ≠ .cell k j) → (∀ j, l2 ≠ .cell k j) → l1 = l2 := by
    intro l1 l2 e n1 n2
    cases l1 with
    | slot t j => cases l2 with
      | slot t' j' => exact e
      | cell i' j' => simp only [f] at e; split at e <;> cases e
    | cell i j => cases l2 with
      | slot t' j' => simp only [f] at e; split at e <;> cases e
      | cell i' j' =>
        simp only [f] at e
        split at e
        · split at e
          · rename_i e1 e2; injection e with _ e3; rw [e1, e2, e3]
          · injection e with e3 e4; exact absurd (by rw [← e3]) (n2 j')
        · split at e
          · injection e with e3 e4; exact absurd (by rw [e3]) (n1 j)
          · exact e
  refine ⟨h.size, fun t => atw _ (h.rep t) (h.envlt t) (he t) hle hbs (upd_same _ _ _) hown fun j b hb => adi h (l := .slot t j) hb, fun t => ?_, fun i e hi => ?_, fun i e hi => ?_, fun b hb => ?_, fun i e hi hc => ?_,
    fun l1 l2 b h1 h2 => ?_, fun l b hl => h.fr _ b (key l b hl).1, h.frlt, ?_, h.markF, Nat.le_refl _⟩
  · rw [hlen]
    rcases he t with e | ⟨off, _, e⟩
    · rw [e]; exact zh (Nat.le_succ _) (h.envlt t)
    · rw [e]; exact Nat.lt_succ_self _
  · have hcell : ∀ (i0 : Nat) cs0, σ[i0]? = some (.cells cs0) → ∀ (j : Nat) c, cs0[j]? = some c → ∃ v, w.cell? ⟨G.bs i0, j, none⟩ = some v ∧ RepO ⟨upd G.K (G.bs k).b (.box σ.length), upd G.bs σ.length (G.bs k)⟩ w v c := by
      intro i0 cs0 hi0 j c hc
      obtain ⟨_, _, h4⟩ := h.sto i0 _ hi0
      obtain ⟨v, hv, hr⟩ := h4 j c hc
      refine ⟨v, hv, hr.mono (n := σ.length) hle hbs ?_ fun b hb => ⟨rfl, hown b (adt hr hb)⟩⟩
      have := h.stolt i0 _ hi0
      simp only [Ent.lt] at this
      exact mo.1 this c (List.mem_of_getElem? hc)
    rcases hget i e hi with ⟨rfl, rfl⟩ | ⟨rfl, rfl⟩ | ⟨h1, h2, h3⟩
    · obtain ⟨h4, h5, _⟩ := h.sto k _ hk
      refine ⟨?_, ?_, fun j c hc => ?_⟩
      · show upd G.K (G.bs k).b (.box σ.length) (upd G.bs σ.length (G.bs k) σ.length).b = _
        rw [upd_same, upd_same]
      · show SpareB w (upd G.bs σ.length (G.bs k) σ.length) _
        rw [upd_same]; exact h5
      · show ∃ v, w.cell? ⟨(upd G.bs σ.length (G.bs k) σ.length).b, j, none⟩ = some v ∧ _
        rw [upd_same]; exact hcell k cs hk j c hc
    · trivial
    · have h4 := h.sto i e h3
      cases e with
      | cells cs0 =>
        obtain ⟨h5, h6, _⟩ := h4
        refine ⟨?_, ?_, fun j c hc => ?_⟩
        · show upd G.K (G.bs k).b (.box σ.length) (upd G.bs σ.length (G.bs k) i).b = _
          rw [hbs i h2, hK' _ (by rw [h5]; intro e; injection e with e; exact h1 e)]; exact h5
        · show SpareB w (upd G.bs σ.length (G.bs k) i) _
          rw [hbs i h2]; exact h6
        · show ∃ v, w.cell? ⟨(upd G.bs σ.length (G.bs k) i).b, j, none⟩ = some v ∧ _
          rw [hbs i h2]; exact hcell i cs0 h3 j c hc
      | gone => trivial
      | loop x y z u =>
        obtain ⟨h5, h6, h7⟩ := h4
        refine ⟨?_, ?_, fun t => ?_⟩
        · show upd G.K (G.bs k).b (.box σ.length) (upd G.bs σ.length (G.bs k) i).b = _
          rw [hbs i h2, hK' _ (by rw [h5]; intro e; injection e with e; exact h1 e)]; exact h5
        · show w.heap[(upd G.bs σ.length (G.bs k) i).b]? = _
          rw [hbs i h2]; exact h6
        · exact (h7 t).imp_right fun hr => hr.mono (n := σ.length) hle hbs (h.stolt i _ h3 t)
  · rw [hlen]
    have up : ∀ (i0 : Nat) e0, σ[i0]? = some e0 → e0.lt (σ.length + 1) := by
      intro i0 e0 hi0
      have := h.stolt i0 e0 hi0
      cases e0 with
      | cells cs0 => simp only [Ent.lt] at this ⊢; rw [mo] at this ⊢; exact fun v hv => zh (Nat.le_succ _) (this v hv)
      | gone => trivial
      | loop x y z u => exact fun t => zh (Nat.le_succ _) (this t)
    rcases hget i e hi with ⟨rfl, rfl⟩ | ⟨rfl, rfl⟩ | ⟨h1, h2, h3⟩
    · exact up k _ hk
    · trivial
    · exact up i e h3
  · by_cases e : b = (G.bs k).b
    · subst e; exact h.kfree _ (by rw [hK]; simp)
    · have hb : upd G.K (G.bs k).b (.box σ.length) b ≠ .free := hb
      rw [upd_ne _ _ e] at hb; exact h.kfree b hb
  · rcases hget i e hi with ⟨rfl, rfl⟩ | ⟨rfl, rfl⟩ | ⟨h1, h2, h3⟩
    · show ¬ F (upd G.bs σ.length (G.bs k) σ.length).b
      rw [upd_same]; exact h.inj k _ hk (.inl ⟨_, rfl⟩)
    · rcases hc with ⟨c, hc⟩ | ⟨_, _, _, _, hc⟩ <;> cases hc
    · show ¬ F (upd G.bs σ.length (G.bs k) i).b
      rw [hbs i h2]; exact h.inj i e h3 hc
  · obtain ⟨k1, n1⟩ := key l1 b h1
    obtain ⟨k2, n2⟩ := key l2 b h2
    exact finj l1 l2 (h.uniq _ _ b k1 k2) n1 n2
  · refine h.marks.mono fun d hd b hb => ⟨rfl, hK' b ?_⟩
    rw [(h.marks.kind d hd b hb).2.1]; simp

theorem Sim.moveIn {m' : Nat} {k : Nat} {cs' : List PV} (h : Sim n m' F G env (σ.set k .gone ++ [.cells cs']) a w) (hm : m ≤ σ.length) (hkl : k < σ.length) (hb : G.bs k = G.bs σ.length)
    (henv : ∀ t, (look env t).lt σ.length) (hst : ∀ (i : Nat) e, σ[i]? = some e → i ≠ k → e.lt σ.length) (hcs : o6 σ.length cs') :
    Sim n m F ⟨upd G.K (G.bs k).b (.box k), G.bs⟩ env (σ.set k (.cells cs')) a w := by
  have hlen : (σ.set k .gone ++ [Ent.cells cs']).length = σ.length + 1 := by simp
  have hN : (σ.set k .gone ++ [Ent.cells cs'])[σ.length]? = some (.cells cs') := by
    rw [List.getElem?_append_right (by rw [List.length_set]; exact Nat.le_refl _), List.length_set, Nat.sub_self]; rfl
  have hK : G.K (G.bs k) = .box σ.length := by rw [hb]; exact ah9 h hN
  have hK' : ∀ b, G.K b ≠ .box σ.length → upd G.K (G.bs k).b (.box k) b = G.K b := fun b hb => upd_ne _ _ fun e => hb (by rw [e]; exact hK)
  have hle : wh G.K w (upd G.K (G.bs k).b (.box k)) w := fun b p hb => ⟨p, ⟨Nat.le_refl _, rfl⟩, by rw [hK' b (by rw [hb]; simp)]; exact hb, fun _ _ => rfl⟩
  have hown : ∀ b, (G.K b = .own ∨ ∃ q, G.K b = .imm q) → upd G.K (G.bs k).b (.box k) b = G.K b := fun b hb => hK' b (by rcases hb with hb | ⟨q, hb⟩ <;> rw [hb] <;> simp)
  have hget : ∀ (i : Nat) e, (σ.set k (.cells cs'))[i]? = some e → (i = k ∧ e = .cells cs') ∨ (i ≠ k ∧ i < σ.length ∧ σ[i]? = some e ∧ (σ.set k .gone ++ [Ent.cells cs'])[i]? = some e) := by
    intro i e hi
    have hil : i < σ.length := by have := (List.getElem?_eq_some_iff.1 hi).1; rwa [List.length_set] at this
    by_cases e1 : i = k
    · subst e1
      rw [List.getElem?_set_self hil] at hi; cases hi; exact .inl ⟨rfl, rfl⟩
    · rw [List.getElem?_set_ne (fun e => e1 e.symm)] at hi
      refine .inr ⟨e1, hil, hi, ?_⟩
      rw [List.getElem?_append_left (by rw [List.length_set]; exact hil), List.getElem?_set_ne (fun e => e1 e.symm)]; exact hi
  let f : Loc → Loc := fun l => match l with
    | .slot t j => .slot t j
    | .cell i j => if i = k then .cell σ.length j else .cell i j
  have key : ∀ l b, nz ⟨upd G.K (G.bs k).b (.box k), G.bs⟩ env (σ.set k (.cells cs')) a.tmps w l = some b → nz G env (σ.set k .gone ++ [.cells cs']) a.tmps w (f l) = some b ∧ ∀ i j, l = .cell i j → i < σ.length := by
    intro l b hl
    cases l with
    | slot t j => exact ⟨hl, fun _ _ e => by cases e⟩
    | cell i j =>
      simp only [nz] at hl
      cases hi : (σ.set k (.cells cs'))[i]? with
      | none => rw [hi] at hl; cases hl
      | some e =>
        rw [hi] at hl
        refine ⟨?_, fun i' j' e => by injection e with e1 _; subst e1; have := (List.getElem?_eq_some_iff.1 hi).1; rwa [List.length_set] at this⟩
        rcases hget i e hi with ⟨rfl, rfl⟩ | ⟨h1, h2, h3, h4⟩
        · simp only [f, if_true, nz, hN]
          rw [← hb]; exact hl
        · simp only [f, if_neg h1, nz, h4]; exact hl
  have finj : ∀ l1 l2, f l1 = f l2 → (∀ i j, l1 = .cell i j → i < σ.length) → (∀ i j, l2 = .cell i j → i < σ.length) → l1 = l2 := by
    intro l1 l2 e n1 n2
    cases l1 with
    | slot t j => cases l2 with
      | slot t' j' => exact e
      | cell i' j' => simp only [f] at e; split at e <;> cases e
    | cell i j =>
      have q1 := n1 i j rfl
      cases l2 with
      | slot t' j' => simp only [f] at e; split at e <;> cases e
      | cell i' j' =>
        have q2 := n2 i' j' rfl
        simp only [f] at e
        split at e
        · split at e
          · rename_i e1 e2; injection e with _ e3; rw [e1, e2, e3]
          · injection e with e3 e4; omega
        · split at e
          · injection e with e3 e4; omega
          · exact e
  have lset : (σ.set k (Ent.cells cs')).length = σ.length := List.length_set ..
  refine ⟨h.size, fun t => (h.rep t).mono (n := σ.length + 1) hle (fun _ _ => rfl) (by rw [← hlen]; exact h.envlt t) fun j b hb => ⟨rfl, hown b (adi h (l := .slot t j) hb)⟩, fun t => by rw [lset]; exact henv t, fun i e hi => ?_, fun i e hi => ?_, fun b hbb => ?_, fun i e hi hc => ?_,
    fun l1 l2 b h1 h2 => ?_, fun l b hl => h.fr _ b (key l b hl).1, h.frlt, ?_, h.markF, by rw [lset]; exact hm⟩
  · have hcell : ∀ (i0 : Nat) cs0, (σ.set k .gone ++ [Ent.cells cs'])[i0]? = some (.cells cs0) → ∀ (j : Nat) c, cs0[j]? = some c → ∃ v, w.cell? ⟨G.bs i0, j, none⟩ = some v ∧ RepO ⟨upd G.K (G.bs k).b (.box k), G.bs⟩ w v c := by
      intro i0 cs0 hi0 j c hc
      obtain ⟨_, _, h4⟩ := h.sto i0 _ hi0
      obtain ⟨v, hv, hr⟩ := h4 j c hc
      refine ⟨v, hv, hr.mono (n := σ.length + 1) hle (fun _ _ => rfl) ?_ fun b hb => ⟨rfl, hown b (adt hr hb)⟩⟩
      have := h.stolt i0 _ hi0
      rw [hlen] at this
      simp only [Ent.lt] at this
      exact mo.1 this c (List.mem_of_getElem? hc)
    rcases hget i e hi with ⟨rfl, rfl⟩ | ⟨h1, h2, h3, h4⟩
    · obtain ⟨h4, h5, _⟩ := h.sto σ.length _ hN
      refine ⟨upd_same _ _ _, by rw [show (Gh.mk (upd G.K (G.bs i).b (.box i)) G.bs).bs i = G.bs σ.length from hb]; exact h5, fun j c hc => ?_⟩
      obtain ⟨v, q1, q2⟩ := hcell σ.length cs' hN j c hc
      exact ⟨v, by rw [show (Gh.mk (upd G.K (G.bs i).b (.box i)) G.bs).bs i = G.bs σ.length from hb]; exact q1, q2⟩
    · have h5 := h.sto i e h4
      cases e with
      | cells cs0 =>
        obtain ⟨h6, h7, _⟩ := h5
        refine ⟨?_, h7, fun j c hc => hcell i cs0 h4 j c hc⟩
        show upd G.K (G.bs k).b (.box k) (G.bs i).b = _
        rw [hK' _ (by rw [h6]; intro e; injection e with e; omega)]; exact h6
      | gone => trivial
      | loop x y z u =>
        obtain ⟨h6, h7, h8⟩ := h5
        refine ⟨?_, h7, fun t => (h8 t).imp_right fun hr => hr.mono (n := σ.length + 1) hle (fun _ _ => rfl) (by have := h.stolt i _ h4 t; rwa [hlen] at this)⟩
        show upd G.K (G.bs k).b (.box k) (G.bs i).b = _
        rw [hK' _ (by rw [h6]; intro e; injection e with e; omega)]; exact h6
  · rw [lset]
    rcases hget i e hi with ⟨rfl, rfl⟩ | ⟨h1, h2, h3, h4⟩
    · exact hcs
    · exact hst i e h3 h1
  · by_cases e : b = (G.bs k).b
    · subst e; exact h.kfree _ (by rw [hK]; simp)
    · have hbb : upd G.K (G.bs k).b (.box k) b ≠ .free := hbb
      rw [upd_ne _ _ e] at hbb; exact h.kfree b hbb
  · rcases hget i e hi with ⟨rfl, rfl⟩ | ⟨h1, h2, h3, h4⟩
    · show ¬ F (G.bs i).b
      rw [hb]; exact h.inj σ.length _ hN (.inl ⟨_, rfl⟩)
    · exact h.inj i e h4 hc
  · obtain ⟨k1, n1⟩ := key l1 b h1
    obtain ⟨k2, n2⟩ := key l2 b h2
    exact finj l1 l2 (h.uniq _ _ b k1 k2) n1 n2
  · refine h.marks.mono fun d hd b hb => ⟨rfl, hK' b ?_⟩
    rw [(h.marks.kind d hd b hb).2.1]; simp
end

theorem jo.move {P : Program} {f : FuncId} {ps ps' : List PV} {σ : Sto} {k : Nat} {cs : List PV} {R : PV → List PV → Prop} (hk : σ[k]? = some (.cells cs)) (hl : ps'.length = ps.length)
    (he : ∀ t, look (xw ps') t = look (xw ps) t ∨ ∃ off, look (xw ps) t = .ptr k off ∧ look (xw ps') t = .ptr σ.length off)
    (h : jo P f ps' (σ.set k .gone ++ [.cells cs]) fun x s => ∃ cs', R x cs' ∧ x.lt σ.length ∧ o6 σ.length cs' ∧ s = σ.set k .gone ++ [.cells cs']) :
    jo P f ps σ fun x s => ∃ cs', R x cs' ∧ s = σ.set k (.cells cs') := by
  intro F G w vs hv hs
  have hkl : k < σ.length := (List.getElem?_eq_some_iff.1 hk).1
  have hK := ah9 hs hk
  have hF : ¬ F (G.bs k).b := hs.inj k _ hk (.inl ⟨_, rfl⟩)
  have hlen : (σ.set k .gone ++ [Ent.cells cs]).length = σ.length + 1 := by simp
  refine (h F _ w vs (by rw [hl]; exact hv) (hs.moveOut hk he)).mono fun e w' ⟨v, r, σ', G', h1, ⟨cs', h2, h3, h4, h5⟩, h6, h7⟩ => ?_
  subst h5
  have hb1 : G'.bs k = G.bs k := by rw [h7.bs k (by rw [hlen]; omega)]; exact upd_ne _ _ (by omega)
  have hb2 : G'.bs σ.length = G.bs k := by rw [h7.bs σ.length (by rw [hlen]; omega)]; exact upd_same _ _ _
  refine ⟨v, r, _, _, h1, ⟨cs', h2, rfl⟩, h6.moveIn (Nat.le_refl _) hkl (hb1.trans hb2.symm) (fun t => ?_) (fun i e hi _ => hs.stolt i e hi) h4, ⟨h7.os, h7.tape, h7.output, h7.size, fun b hb => ?_, fun b p hp => ?_, fun i hi => ?_⟩⟩
  · by_cases e : t = 0
    · subst e; exact h3
    · rw [qg, if_neg e]; trivial
  · obtain ⟨k1, k2⟩ := h7.fr b hb
    have hne : b ≠ (G.bs k).b := fun e => hF (e ▸ hb)
    refine ⟨k1, ?_⟩
    show upd G'.K (G'.bs k).b (.box k) b = _
    rw [hb1, upd_ne _ _ hne, k2]
    exact upd_ne _ _ hne
  · have hne : b ≠ (G.bs k).b := fun e => by subst e; rw [hK] at hp; cases hp
    obtain ⟨p', k1, k2, k3⟩ := h7.imm b p (by show upd G.K _ _ b = _; rw [upd_ne _ _ hne]; exact hp)
    refine ⟨p', k1, ?_, k3⟩
    show upd G'.K (G'.bs k).b (.box k) b = _
    rw [hb1, upd_ne _ _ hne]; exact k2
  · show G'.bs i = _
    rw [h7.bs i (by rw [hlen]; omega)]; exact upd_ne _ _ (by omega)

section
variable {P : Program} {tt : TT} {l : Option Nat} {n m : Nat} {env : Env} {σ τ ex : Sto} {Q : Post} {all : Array Oper} {rest : List Oper} {d : Nat} {ty : TypeId} {pos : String} {after : Array Edge}

theorem avb {t : TypeId} {x : Operand} {p : PV} (hp : opv tt env t x = p) (hS : p.isS = true) (hd : d < n)
    (h : SatOps P l n m all rest ((d, .ptr σ.length 0) :: env) (σ ++ [.cells (p.cells.map adf)]) Q) : SatOps P l n m all (⟨some d, .box t x, ty, pos, after, none⟩ :: rest) env σ Q := by
  refine ym rfl (by simp) fun F G a w hs => ?_
  have hx := o7 hs tt t x
  have hxl := yf hs tt t x
  rw [hp] at hx hxl
  obtain ⟨h1, h2⟩ := ad7 (hx.toS hS)
  have hc : ∀ (j : Nat) v c, (a.eval x).cells[j]? = some v → (p.cells.map adf)[j]? = some c → RepO G w v c ∧ ownB v c = none := fun j v c hv hc => by
    rw [List.getElem?_map, Option.map_eq_some_iff] at hc
    obtain ⟨c0, hc0, rfl⟩ := hc
    exact ai4 (h2 j v c0 hv hc0)
  have hlt : o6 σ.length (p.cells.map adf) := by
    have := cells_lt hxl
    rw [mo] at this ⊢
    intro v hv
    obtain ⟨c0, hc0, rfl⟩ := List.mem_map.1 hv
    exact aon (this c0 hc0)
  have hs1 := hs.box (a.eval x).cells t (p.cells.map adf) (by rw [List.length_map]; omega) hlt (fun j v c hv hc' => (hc j v c hv hc').1) (.of_sh fun j v c hv hc' => (hc j v c hv hc').2)
  refine ⟨.pointer (some ⟨w.heap.size, 0, none⟩), _, _, _, _, .inl (by simp [execOp, Instr.box, newVar, newRow]), hs1.setS hd (v := .pointer (some ⟨w.heap.size, 0, none⟩)) ?_ (by simp [PV.lt]), Evol.alloc hs _ _ _ fun i hi => upd_ne _ _ (by have := hs.floor; omega), h⟩
  have : RepS ⟨upd G.K w.heap.size (.box σ.length), upd G.bs σ.length ⟨w.heap.size, (t, (a.eval x).cells.size), false⟩⟩ (w.alloc (.cells (a.eval x).cells t)) (.pointer (some ⟨(upd G.bs σ.length ⟨w.heap.size, (t, (a.eval x).cells.size), false⟩ σ.length).b, 0, none⟩)) (.ptr σ.length 0) := .ptr _ _
  rw [upd_same] at this
  exact this
theorem aso {t : TypeId} {x : Operand} {p : PV} {k : Nat} (hp : opv tt env t x = p) (hS : p.isS = true) (hk : ex.length = k) (hd : Nat.ble (d + 1) n = true)
    (h : SatOps P l n m all rest ((d, .ptr (τ.length + k) 0) :: env) (τ ++ (ex ++ [.cells (p.cells.map adf)])) Q) : SatOps P l n m all (⟨some d, .box t x, ty, pos, after, none⟩ :: rest) env (τ ++ ex) Q := by
  refine avb hp hS (ltn hd) ?_
  rw [List.length_append, hk, List.append_assoc]; exact h

theorem avj {fn : Func} {R : PV → Sto → Prop} {e : Exit} {σ0 : Sto} {c0 : Ent} {cs : List PV} (ps : List PV) (he : e = .normal ∨ e = .ret) (hres : acp tt env σ0 fn.results.toList ps) (htup : ps.all (fun p => !p.isTup) = true) (hσ : σ0 = τ ++ .cells cs :: ex)
    (hst : xh (τ ++ [c0])) (hlt : o6 0 ps) (hcs : o6 0 cs) (hR : R (abb ps) (τ ++ [.cells cs])) : gu tt fn (τ ++ [c0]).length R e env σ0 := by
  have up : ∀ {k : Nat} {l : List PV}, o6 0 l → o6 k l := fun h => by rw [mo] at h ⊢; exact fun v hv => zh (Nat.zero_le _) (h v hv)
  refine fu (τ := τ ++ [.cells cs]) (ex := ex) ps he hres htup (by rw [hσ, List.append_assoc]; rfl) (by simp) (up hlt) ?_ hR
  intro i e' hi
  have hl : (τ ++ [Ent.cells cs]).length = (τ ++ [c0]).length := by simp
  rw [hl]
  by_cases h1 : i < τ.length
  · rw [List.getElem?_append_left h1] at hi
    exact hst i e' (by rw [List.getElem?_append_left h1]; exact hi)
  · rw [List.getElem?_append_right (by omega)] at hi
    cases hj : i - τ.length with
    | zero => rw [hj] at hi; cases hi; exact up hcs
    | succ j => rw [hj] at hi; cases hi

end

end Go.Proofs.Ytbpjaiemlkcccaa.Pv
