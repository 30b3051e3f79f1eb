/- Rows in boxes: cells written into a box; a box that turns no more; a slice of one's own that becomes a box. -/
import Derived.Test.YtflgoabdgibphaaPvZc
namespace Go.Proofs.Ytflgoabdgibphaa.Pv
open Go
set_option linter.unusedVariables false
set_option linter.unusedSimpArgs false

section
variable {P : Program} {n m : Nat} {F : Nat → Prop} {G : Gh} {env : Env} {σ : Sto} {a : Act} {w : World}

/-- Cells are written into a box. -/
theorem Sim.boxWrite (hs : Sim n m F G env σ a w) {i : Nat} {cs : List PV} (hi : σ[i]? = some (.cells cs)) (off : Nat) (vs : List Value) (ps : List PV) (hl : vs.length = ps.length)
    (hr : ∀ (j : Nat) v c, vs[j]? = some v → ps[j]? = some c → RepS G w v c) (hlt : ltAll σ.length ps) (h1 : ps.all PV.one = true) (hoff : off + ps.length ≤ cs.length) :
    (storeCells ⟨G.bs i, off, none⟩ vs 0).run P w = .ok () (w.setCells (G.bs i) off vs) ∧ Sim n m F G env (σ.set i (.cells (putAt cs off ps))) a (w.setCells (G.bs i) off vs) ∧ Evol m F G w G (w.setCells (G.bs i) off vs) := by
  obtain ⟨hK, hsp, hcell⟩ := hs.sto i _ hi
  have hst := hs.stolt i _ hi
  simp only [Ent.lt] at hst
  obtain ⟨⟨arr, T, fz, a1, a2, a3⟩, hshB, hnfB⟩ := hsp
  have hthere : ∀ j, j < cs.length → (w.cell? ⟨G.bs i, j, none⟩).isSome = true := fun j hj => by
    obtain ⟨v, hv, _⟩ := hcell j cs[j] (by simp [hj])
    rw [hv]; rfl
  have hrun := run_storeCells_cells (P := P) (G.bs i) off vs 0 w (fun j hj => by rw [Nat.add_zero]; exact hthere _ (by omega)) (fun j hj => by rw [Nat.add_zero]; exact a3 _ (Nat.zero_le _) (by omega)) (fun v hv => by
    obtain ⟨j, hj, rfl⟩ := List.getElem_of_mem hv
    have hj' : j < ps.length := by omega
    have := hr j vs[j] ps[j] (by simp) (by simp [hj'])
    exact (RepO.one (.sh this) (List.all_eq_true.1 h1 _ (List.getElem_mem hj'))).1)
  rw [Nat.add_zero] at hrun
  obtain ⟨q1, q2⟩ := putAt_get cs off ps hoff
  have hnew : ∀ j c, (putAt cs off ps)[j]? = some c → ∃ v, (w.setCells (G.bs i) off vs).cell? ⟨G.bs i, j, none⟩ = some v ∧ RepO G w v c ∧ ((off ≤ j ∧ j < off + ps.length ∧ ownB v c = none) ∨ (cs[j]? = some c ∧ w.cell? ⟨G.bs i, j, none⟩ = some v)) := by
    intro j c hc
    rw [q2] at hc
    split at hc
    · rename_i hj
      have hjl : j - off < vs.length := by omega
      have := World.cell?_setCells_in (G.bs i) vs off w (fun j hj => hthere _ (by omega)) (j - off) hjl
      rw [show off + (j - off) = j by omega] at this
      have hR := hr (j - off) vs[j - off] c (by simp [hjl]) hc
      exact ⟨_, this, .sh hR, .inl ⟨hj.1, hj.2, ownB_sh hR⟩⟩
    · rename_i hj
      obtain ⟨v, hv, hR⟩ := hcell j c hc
      exact ⟨v, by rw [World.cell?_setCells_out _ _ _ _ _ (fun _ _ => by simp only; omega)]; exact hv, hR, .inr ⟨hc, hv⟩⟩
  obtain ⟨s1, s2, s3, s4⟩ := sc_same (G.bs i) vs off w
  refine ⟨hrun, ?_, Evol.boxSet hs hi off _⟩
  exact hs.boxSet (cs' := putAt cs off ps) hi s1 (fun b hb => sc_other _ _ _ _ _ hb) (sc_spareB ⟨⟨arr, T, fz, a1, by rw [q1]; exact a2, fun j hj hk => a3 j hj (by omega)⟩, hshB, hnfB⟩ _ _ _) (by
      rw [ltAll_iff]; intro c hc
      obtain ⟨j, hj, rfl⟩ := List.getElem_of_mem hc
      have hc' := q2 j
      rw [List.getElem?_eq_getElem hj] at hc'
      split at hc'
      · exact ltAll_iff.1 hlt _ (List.mem_of_getElem? hc'.symm)
      · exact ltAll_iff.1 hst _ (List.mem_of_getElem? hc'.symm)) (fun j c hc => let ⟨v, h1, h2, _⟩ := hnew j c hc; ⟨v, h1, h2⟩) (fun j v c b hv hc hb => by
      obtain ⟨v', h1, _, h3⟩ := hnew j c hc
      rw [hv] at h1; cases h1
      rcases h3 with ⟨_, _, h3⟩ | ⟨h3, h4⟩
      · rw [h3] at hb; cases hb
      · have := ownAt_cell (env := env) (a := a) hi h3 h4 hb
        exact ⟨hs.fr _ b this, fun l' hl' => hs.uniq _ _ b hl' this⟩) (fun j j' v c v' c' b hv hc hb hv' hc' hb' => by
      obtain ⟨u, h1, _, h3⟩ := hnew j c hc
      obtain ⟨u', h1', _, h3'⟩ := hnew j' c' hc'
      rw [hv] at h1; cases h1
      rw [hv'] at h1'; cases h1'
      rcases h3 with ⟨_, _, h3⟩ | ⟨h3, h4⟩
      · rw [h3] at hb; cases hb
      · rcases h3' with ⟨_, _, h3'⟩ | ⟨h3', h4'⟩
        · rw [h3'] at hb'; cases hb'
        · have := hs.uniq _ _ b (ownAt_cell (env := env) (a := a) hi h3 h4 hb) (ownAt_cell (env := env) (a := a) hi h3' h4' hb')
          cases this; rfl)

/-- What a place that pointed into a box may be read as, once the box turns no more. -/
def Frz (i : Nat) (cs : List PV) (p' p : PV) : Prop :=
  p' = .dead ∨ p' = p ∨ ∃ off sz len cap es, (p = .bsl i off sz len cap ∨ p = .xsl i off sz len cap) ∧ p' = .sl .sh sz es ∧ es.length = len ∧ (∀ e ∈ es, e.cells.length = sz) ∧ off + len * sz ≤ cs.length ∧ ∀ (j : Nat) c, (flat es)[j]? = some c → cs[off + j]? = some c

def FrzE (i : Nat) (cs : List PV) (e' e : Ent) : Prop :=
  e' = e ∨ ∃ ds ds', e = .cells ds ∧ e' = .cells ds' ∧ ds'.length = ds.length ∧ ∀ (k : Nat) c', ds'[k]? = some c' → ∃ c, ds[k]? = some c ∧ Frz i cs c' c

theorem Frz.lt {i k : Nat} {cs : List PV} {p' p : PV} (h : Frz i cs p' p) (hl : p.lt k) : p'.lt k := by
  rcases h with rfl | rfl | ⟨off, sz, len, cap, es, _, rfl, _⟩
  · trivial
  · exact hl
  · trivial

theorem Frz.own {i : Nat} {cs : List PV} {p' p : PV} (h : Frz i cs p' p) (v : Value) (b : Nat) (ho : ownB v p' = some b) : p' = p := by
  rcases h with rfl | rfl | ⟨off, sz, len, cap, es, _, rfl, _⟩
  · rw [ownB_dead] at ho; cases ho
  · rfl
  · exfalso; revert ho; unfold ownB; split <;> simp_all

theorem Frz.ownS {i : Nat} {cs : List PV} {p' p : PV} (h : Frz i cs p' p) (v : Value) (j b : Nat) (ho : ownSlot v p' j = some b) : p' = p := by
  rcases h with rfl | rfl | ⟨off, sz, len, cap, es, _, rfl, _⟩
  · rw [ownSlot_dead] at ho; cases ho
  · rfl
  · exfalso; unfold ownSlot at ho; cases v <;> simp [ownB] at ho

/-- A box turns no more: who pointed into it may read it as a row of values. -/
theorem Sim.freeze (h : Sim n m F G env σ a w) {i : Nat} {cs rest : List PV} (hi : σ[i]? = some (.cells (cs ++ rest))) (hpl : ∀ c ∈ cs, c.pl = true) {env' : Env} (he : ∀ t, Frz i cs (look env' t) (look env t))
    {σ' : Sto} (hl : σ'.length = σ.length) (hg : σ'[i]? = some .gone) (hσ : ∀ (j : Nat) e', j ≠ i → σ'[j]? = some e' → ∃ e, σ[j]? = some e ∧ FrzE i cs e' e) :
    Sim n m F ⟨upd G.K (G.bs i) (.imm cs.length), G.bs⟩ env' σ' a w ∧ Evol m F G w ⟨upd G.K (G.bs i) (.imm cs.length), G.bs⟩ w := by
  obtain ⟨hK, hsp, hcell⟩ := h.sto i _ hi
  have hnF : ¬ F (G.bs i) := h.inj i _ hi (.inl ⟨_, rfl⟩)
  have hKne : ∀ (b : Nat) k, G.K b = k → (∀ j, k ≠ .box j) → upd G.K (G.bs i) (.imm cs.length) b = G.K b := fun b k hb hk => upd_ne _ _ fun e => hk i (by rw [← hb, e, hK])
  have hle : ImmLe G.K w (upd G.K (G.bs i) (.imm cs.length)) w := fun b p hb => ⟨p, Nat.le_refl _, by rw [hKne b _ hb (by simp)]; exact hb, fun _ _ => rfl⟩
  have hownK : ∀ v p b, RepO G w v p → ownB v p = some b → upd G.K (G.bs i) (.imm cs.length) b = G.K b := fun v p b hr hb => by
    rcases ownB_kind hr hb with e | ⟨q, e⟩
    · exact hKne b _ e (by simp)
    · exact hKne b _ e (by simp)
  have monoO : ∀ v p k, RepO G w v p → p.lt k → RepO ⟨upd G.K (G.bs i) (.imm cs.length), G.bs⟩ w v p := fun v p k hr hlt => hr.mono (n := k) hle (fun _ _ => rfl) hlt fun b hb => ⟨rfl, hownK v p b hr hb⟩
  have hvals : ∀ j : Nat, ∃ v, j < cs.length → w.cell? ⟨G.bs i, j, none⟩ = some v ∧ ∀ c, cs[j]? = some c → RepP (upd G.K (G.bs i) (.imm cs.length)) w v c := by
    intro j
    by_cases hj : j < cs.length
    · obtain ⟨v, h1, h2⟩ := hcell j cs[j] (by rw [List.getElem?_append_left hj]; simp)
      refine ⟨v, fun _ => ⟨h1, fun c hc => ?_⟩⟩
      have hcc : c = cs[j] := by simpa [hj] using hc.symm
      subst hcc
      exact ((h2.toS (pl_isS (hpl _ (List.getElem_mem hj)))).plain (hpl _ (List.getElem_mem hj))).mono hle
    · exact ⟨undef, fun h => absurd h hj⟩
  obtain ⟨vs, hvs⟩ := Classical.axiomOfChoice hvals
  have frz : ∀ v p p' k, RepO G w v p → Frz i cs p' p → p.lt k → RepO ⟨upd G.K (G.bs i) (.imm cs.length), G.bs⟩ w v p' := by
    intro v p p' k hr hf hlt
    rcases hf with rfl | rfl | ⟨off, sz, len, cap, es, hp, rfl, hel, hes, hoff, hfl⟩
    · exact .dead _
    · exact monoO _ _ _ hr hlt
    · have hr : ∃ ad cap', v = .slice ad len cap' ∧ len ≤ cap' ∧ (len = 0 ∨ ad = some ⟨G.bs i, off, none⟩) := by
        rcases hp with rfl | rfl
        · obtain ⟨ad, cap', rfl, c1, c2, c3⟩ := (hr.toS rfl).bslv
          exact ⟨ad, cap', rfl, by omega, c3.imp_left fun h => by omega⟩
        · obtain ⟨ad, rfl, c1, c3⟩ := (hr.toS rfl).xslv
          exact ⟨ad, cap, rfl, c1, c3.imp (fun h => by omega) (·.1)⟩
      obtain ⟨ad, cap', rfl, c1, c3⟩ := hr
      by_cases h0 : len = 0
      · subst h0
        have : es = [] := List.length_eq_zero_iff.1 hel
        subst this
        exact .sh (.pl (.sl0 _ _ _))
      · have c3 := c3.resolve_left (by omega)
        subst c3
        subst hel
        refine .sh (.pl (.sl ⟨G.bs i, off, none⟩ cap' sz cs.length es (fun j => vs (off + j)) rfl (upd_same _ _ _) hoff (by omega) hes (fun j hj => (hvs (off + j) (by omega)).1) fun j c hc => ?_))
        have := hfl j c hc
        exact (hvs (off + j) (List.getElem?_eq_some_iff.1 this).1).2 c this
  have frzS : ∀ t, Rep ⟨upd G.K (G.bs i) (.imm cs.length), G.bs⟩ w (a.tmps.getD t undef) (look env' t) := by
    intro t
    have hr := h.rep t
    have hlt := h.envlt t
    rcases he t with e | e | ⟨off, sz, len, cap, es, e1, e2, q⟩
    · rw [e]; exact .one (.dead _)
    · rw [e]
      refine hr.mono (n := σ.length) hle (fun _ _ => rfl) hlt fun j b hb => ⟨rfl, ?_⟩
      have := own_kind h (l := .slot t j) hb
      rcases this with e | ⟨q, e⟩
      · exact hKne b _ e (by simp)
      · exact hKne b _ e (by simp)
    · exact .one (frz _ _ _ σ.length (hr.toO fun ps h => by rcases e1 with e1 | e1 <;> (rw [e1] at h; cases h)) (by rw [e2]; exact .inr (.inr ⟨off, sz, len, cap, es, e1, rfl, q⟩)) hlt)
  have hne : ∀ j e, j ≠ i → σ[j]? = some e → (∃ c, e = .cells c) ∨ (∃ x y z u, e = .loop x y z u) → (G.bs j).b ≠ (G.bs i).b := fun j e hj hs hc e' => by
    have : G.K (G.bs j) = .box j := by rcases hc with ⟨c, rfl⟩ | ⟨x, y, z, u, rfl⟩ <;> exact (h.sto j _ hs).1
    rw [e', hK] at this
    cases this; exact hj rfl
  have hEK : ∀ (b : Nat) i', G.K b = .box i' → b ≠ (G.bs i).b → upd G.K (G.bs i) (.imm cs.length) b = .box i' := fun b i' hb hn => by rw [upd_ne _ _ hn]; exact hb
  have key : ∀ l b, ownAt ⟨upd G.K (G.bs i) (.imm cs.length), G.bs⟩ env' σ' a.tmps w l = some b → ownAt G env σ a.tmps w l = some b := by
    intro l b hl'
    cases l with
    | slot t j =>
      simp only [ownAt] at hl' ⊢
      rw [← (he t).ownS _ _ _ hl']; exact hl'
    | cell k j =>
      simp only [ownAt] at hl' ⊢
      by_cases hk : k = i
      · subst hk; rw [hg] at hl'; cases hl'
      · cases hk' : σ'[k]? with
        | none => rw [hk'] at hl'; cases hl'
        | some e' =>
          obtain ⟨e, h1, h2⟩ := hσ k e' hk hk'
          rw [hk'] at hl'
          rw [h1]
          rcases h2 with rfl | ⟨ds, ds', rfl, rfl, _, h3⟩
          · exact hl'
          · simp only at hl' ⊢
            split at hl'
            · rename_i c v hc hv
              obtain ⟨c0, h4, h5⟩ := h3 j c hc
              have e5 := h5.own v b hl'
              subst e5
              simp only [h4, hv]; exact hl'
            · cases hl'
  refine ⟨⟨h.size, frzS, fun t => by rw [hl]; exact (he t).lt (h.envlt t), fun k e' hk => ?_, fun k e' hk => ?_, fun b hb => ?_, fun k e' hk hc => ?_, fun l1 l2 b h1 h2 => h.uniq l1 l2 b (key _ _ h1) (key _ _ h2), fun l b hl' => h.fr l b (key _ _ hl'), h.frlt, ?_, h.markF, by rw [hl]; exact h.floor⟩, ?_⟩
  · by_cases hki : k = i
    · subst hki; rw [hg] at hk; cases hk; trivial
    · obtain ⟨e, h1, h2⟩ := hσ k e' hki hk
      have h0 := h.sto k e h1
      have hlt0 := h.stolt k e h1
      rcases h2 with rfl | ⟨ds, ds', rfl, rfl, h3, h4⟩
      · cases e' with
        | cells cs' =>
          obtain ⟨g1, g2, g3⟩ := h0
          refine ⟨hEK _ _ g1 (hne k _ hki h1 (.inl ⟨_, rfl⟩)), g2, fun j c hc => ?_⟩
          obtain ⟨v, hv, hR⟩ := g3 j c hc
          exact ⟨v, hv, monoO _ _ σ.length hR (ltAll_iff.1 hlt0 c (List.mem_of_getElem? hc))⟩
        | gone => trivial
        | loop x y z u =>
          obtain ⟨g1, g2, g3⟩ := h0
          exact ⟨hEK _ _ g1 (hne k _ hki h1 (.inr ⟨_, _, _, _, rfl⟩)), g2, fun t => (g3 t).imp_right fun hr => hr.mono hle (fun _ _ => rfl) (hlt0 t)⟩
      · obtain ⟨g1, g2, g3⟩ := h0
        refine ⟨hEK _ _ g1 (hne k _ hki h1 (.inl ⟨_, rfl⟩)), by rw [h3]; exact g2, fun j c' hc' => ?_⟩
        obtain ⟨c, h5, h6⟩ := h4 j c' hc'
        obtain ⟨v, hv, hR⟩ := g3 j c h5
        exact ⟨v, hv, frz _ _ _ σ.length hR h6 (ltAll_iff.1 hlt0 c (List.mem_of_getElem? h5))⟩
  · rw [hl]
    by_cases hki : k = i
    · subst hki; rw [hg] at hk; cases hk; trivial
    · obtain ⟨e, h1, h2⟩ := hσ k e' hki hk
      have hlt0 := h.stolt k e h1
      rcases h2 with rfl | ⟨ds, ds', rfl, rfl, h3, h4⟩
      · exact hlt0
      · simp only [Ent.lt] at hlt0 ⊢
        rw [ltAll_iff]
        intro c' hc'
        obtain ⟨j, hj, rfl⟩ := List.getElem_of_mem hc'
        obtain ⟨c, h5, h6⟩ := h4 j ds'[j] (by simp [hj])
        exact h6.lt (ltAll_iff.1 hlt0 c (List.mem_of_getElem? h5))
  · by_cases e : b = (G.bs i).b
    · subst e; exact h.kfree _ (by rw [hK]; simp)
    · simp only [upd_ne _ _ e] at hb; exact h.kfree b hb
  · by_cases hki : k = i
    · subst hki; rw [hg] at hk; cases hk; rcases hc with ⟨c, e⟩ | ⟨x, y, z, u, e⟩ <;> cases e
    · obtain ⟨e, h1, h2⟩ := hσ k e' hki hk
      rcases h2 with rfl | ⟨ds, ds', rfl, rfl, h3, h4⟩
      · exact h.inj k _ h1 hc
      · exact h.inj k _ h1 (.inl ⟨_, rfl⟩)
  · refine h.marks.mono fun d hd b hb => ⟨rfl, ?_⟩
    obtain ⟨x', e1, h2, _⟩ := mark_kind h d hd
    subst e1; cases hb
    exact hKne _ _ h2 (by simp)
  · exact ⟨rfl, rfl, rfl, Nat.le_refl _, fun b hb => ⟨rfl, upd_ne _ _ fun e => hnF (e ▸ hb)⟩, hle, fun _ _ => rfl⟩

end
end Go.Proofs.Ytflgoabdgibphaa.Pv
