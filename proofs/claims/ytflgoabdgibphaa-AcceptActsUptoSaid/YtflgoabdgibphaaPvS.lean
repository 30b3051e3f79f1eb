/- Boxes that hold slices of one's own: taken out, laid in. -/
import Derived.Test.YtflgoabdgibphaaPvR
namespace Go.Proofs.Ytflgoabdgibphaa.Pv
open Go
set_option linter.unusedVariables false
set_option linter.unusedSimpArgs false

theorem isOwn_one {p : PV} (h : p.isOwn = true) : p.one = true := by
  cases p <;> first | rfl | cases h
theorem isOwn_lt {p : PV} (h : p.isOwn = true) (k : Nat) : p.lt k := by
  cases p <;> first | trivial | cases h
theorem left1_lt (p : PV) (k : Nat) : (left1 p).lt k := by
  unfold left1; split <;> trivial

section
variable {n m : Nat} {F : Nat → Prop} {G : Gh} {env : Env} {σ : Sto} {a : Act} {w : World}

theorem Wk.repO {p p' : PV} (h : Wk p' p) {v : Value} (hr : RepO G w v p) : RepO G w v p' := by
  rcases h with rfl | rfl | ⟨sz, es, rfl, rfl⟩
  · exact .dead _
  · exact hr
  · cases hr with
    | sh h => cases h with | pl h => cases h
    | ow a cap sz es h ho => exact .sh (.pl h)

theorem ownB_left1 {p : PV} (h : p.isOwn = true) (v : Value) : ownB v (left1 p) = none := by
  have := left1_slot h v 0
  unfold ownSlot at this
  cases p with
  | sl o sz es => cases o <;> first | (cases h; done) | (simp only [left1] at this ⊢; simpa using this) | exact ownB_dead _
  | _ => cases h

/-- What a box holds of its own is taken out. -/
theorem Sim.takeCell (h : Sim n m F G env σ a w) {i off : Nat} {cs : List PV} {p : PV} (hi : σ[i]? = some (.cells cs)) (hp : cs[off]? = some p) (ho : p.isOwn = true) :
    Sim n m F G env (σ.set i (.cells (cs.set off (left1 p)))) a w ∧ ∃ v, w.cell? ⟨G.bs i, off, none⟩ = some v ∧ RepO G w v p ∧
      ∀ b, ownB v p = some b → ¬ F b ∧ ∀ l, ownAt G env (σ.set i (.cells (cs.set off (left1 p)))) a.tmps w l ≠ some b := by
  obtain ⟨hK, hsp, hcell⟩ := h.sto i _ hi
  have hst := h.stolt i _ hi
  simp only [Ent.lt] at hst
  have hol : off < cs.length := (List.getElem?_eq_some_iff.1 hp).1
  have hget : ∀ j c, (cs.set off (left1 p))[j]? = some c → (j = off ∧ c = left1 p) ∨ (j ≠ off ∧ cs[j]? = some c) := by
    intro j c hc
    rw [List.getElem?_set] at hc
    split at hc
    · rename_i e; first | (rw [if_pos hol] at hc; cases hc; exact .inl ⟨e.symm, rfl⟩) | (cases hc; exact .inl ⟨e.symm, rfl⟩)
    · rename_i e; exact .inr ⟨fun e2 => e e2.symm, hc⟩
  have s1 := h.boxSet (cs' := cs.set off (left1 p)) hi (w' := w) rfl (fun _ _ => rfl) (by rw [List.length_set]; exact hsp) (by
      rw [ltAll_iff]; intro c hc
      obtain ⟨j, hj, rfl⟩ := List.getElem_of_mem hc
      rcases hget j _ (List.getElem?_eq_getElem hj) with ⟨_, e⟩ | ⟨_, e⟩
      · rw [e]; exact left1_lt _ _
      · exact ltAll_iff.1 hst _ (List.mem_of_getElem? e)) (fun j c hc => by
      rcases hget j c hc with ⟨rfl, rfl⟩ | ⟨_, e⟩
      · obtain ⟨v, h1, h2⟩ := hcell j p hp; exact ⟨v, h1, (left1_wk ho).repO h2⟩
      · exact hcell j c e) (fun j v c b hv hc hb => by
      rcases hget j c hc with ⟨rfl, rfl⟩ | ⟨_, e⟩
      · rw [ownB_left1 ho] at hb; cases hb
      · have := ownAt_cell (env := env) (a := a) hi e hv hb
        exact ⟨h.fr _ b this, fun l' hl' => h.uniq _ _ b hl' this⟩) (fun j j' v c v' c' b hv hc hb hv' hc' hb' => by
      rcases hget j c hc with ⟨rfl, rfl⟩ | ⟨_, e⟩
      · rw [ownB_left1 ho] at hb; cases hb
      · rcases hget j' c' hc' with ⟨rfl, rfl⟩ | ⟨_, e'⟩
        · rw [ownB_left1 ho] at hb'; cases hb'
        · have := h.uniq _ _ b (ownAt_cell (env := env) (a := a) hi e hv hb) (ownAt_cell (env := env) (a := a) hi e' hv' hb')
          cases this; rfl)
  obtain ⟨v, hv, hr⟩ := hcell off p hp
  refine ⟨s1, v, hv, hr, fun b hb => ?_⟩
  have h0 := ownAt_cell (env := env) (a := a) hi hp hv hb
  refine ⟨h.fr _ b h0, fun l' hl => ?_⟩
  have hil : i < σ.length := (List.getElem?_eq_some_iff.1 hi).1
  have h1 : ownAt G env σ a.tmps w l' = some b ∧ l' ≠ .cell i off := by
    cases l' with
    | slot t j => exact ⟨hl, fun e => by cases e⟩
    | cell k j =>
      simp only [ownAt] at hl ⊢
      by_cases e : k = i
      · subst e
        rw [List.getElem?_set_self hil] at hl
        simp only [hi]
        simp only at hl
        split at hl
        · rename_i c v' hc hv'
          rcases hget j c hc with ⟨rfl, rfl⟩ | ⟨hj, e⟩
          · rw [ownB_left1 ho] at hl; cases hl
          · rw [e, hv']; exact ⟨hl, fun e' => hj (by cases e'; rfl)⟩
        · cases hl
      · rw [List.getElem?_set_ne (Ne.symm e)] at hl; exact ⟨hl, fun e' => e (by cases e'; rfl)⟩
  exact h1.2 (h.uniq _ _ b h1.1 h0)

end

section
variable {P : Program} {l : Option Nat} {tt : TT} {n m : Nat} {all : Array Oper} {rest : List Oper} {env : Env} {σ : Sto} {Q : Post} {d : Nat} {ty : TypeId} {pos : String} {after : Array Edge}

/-- A slice is taken out of its box. -/
theorem op_loadT (ht : TabOK P tt) {t : TypeId} {x : Operand} {i off : Nat} {ti : TI} {cs : List PV} {p : PV} (hx : opv tt env t x = .ptr i off) (hti : tl tt t = some ti) (hnd : aggD ti.desc = false)
    (hi : σ[i]? = some (.cells cs)) (hp : cs[off]? = some p) (ho : p.isOwn = true) (hd : d < n) (h : SatOps P l n m all rest ((d, p) :: env) (σ.set i (.cells (cs.set off (left1 p)))) Q) :
    SatOps P l n m all (⟨some d, .load t x, ty, pos, after, none⟩ :: rest) env σ Q := by
  refine op_gen rfl (by simp) fun F G a w hs => ?_
  have hxo := opv_ok hs tt t x
  rw [hx] at hxo
  have ev := (hxo.toS rfl).ptrv
  have hT := ht _ _ hti
  obtain ⟨s1, v, hv, hr, hO⟩ := hs.takeCell hi hp ho
  refine ⟨v, w, G, _, _, .inl (by simp [execOp, ev, Instr.loadAt, Instr.sureAddr, loadVar, hT.ragg w, hnd, run_load, hv]), s1.set hd (.one hr) (isOwn_lt ho _) (fun j b hb => ?_) (fun j1 j2 b hb1 hb2 => ?_), .refl _ _ _ _, h⟩
  · rw [isOwn_slot ho] at hb
    split at hb
    · exact ⟨(hO b hb).1, fun l hl => absurd hl ((hO b hb).2 l)⟩
    · cases hb
  · rw [isOwn_slot ho] at hb1 hb2
    split at hb1
    · split at hb2
      · omega
      · cases hb2
    · cases hb1

/-- A slice goes from its holder into a box. -/
theorem op_storeT (ht : TabOK P tt) {t : TypeId} {x : Operand} {u : Nat} {i off : Nat} {ti : TI} {cs : List PV} {p : PV} (hx : opv tt env t x = .ptr i off) (hti : tl tt t = some ti) (hsz : ti.size = 1)
    (hi : σ[i]? = some (.cells cs)) (hp : look env u = p) (ho : p.isOwn = true) (hoff : off < cs.length) (hux : x ≠ .tmp u)
    (h : SatOps P l n m all rest ((u, left1 p) :: env) (σ.set i (.cells (cs.set off p))) Q) : SatOps P l n m all (⟨none, .store t x (.tmp u), ty, pos, after, none⟩ :: rest) env σ Q := by
  refine op_gen rfl (by simp) fun F G a w hs => ?_
  have hxo := opv_ok hs tt t x
  rw [hx] at hxo
  have ev := (hxo.toS rfl).ptrv
  have hT := ht _ _ hti
  obtain ⟨s1, hr, hO⟩ := hs.take hp ho
  obtain ⟨hK, hsp, hcell⟩ := s1.sto i _ hi
  have hst := s1.stolt i _ hi
  simp only [Ent.lt] at hst
  obtain ⟨⟨arr, T, fz, a1, a2, a3⟩, hshB, hnfB⟩ := hsp
  obtain ⟨v, hvdef⟩ : ∃ v, v = a.tmps.getD u undef := ⟨_, rfl⟩
  have hva : a.eval (.tmp u) = v := by rw [hvdef]; rfl
  rw [← hvdef] at hr hO
  obtain ⟨o1, o2, o3⟩ := RepO.one hr (isOwn_one ho)
  have hthere : ∀ j, j < cs.length → (w.cell? ⟨G.bs i, j, none⟩).isSome = true := fun j hj => by
    obtain ⟨v, hv, _⟩ := hcell j cs[j] (by simp [hj])
    rw [hv]; rfl
  have hrun := run_storeCells_cells (P := P) (G.bs i) off [v] 0 w (fun j hj => by simp at hj; rw [Nat.add_zero]; exact hthere _ (by omega)) (fun j hj => by simp at hj; rw [Nat.add_zero]; exact a3 _ (Nat.zero_le _) (by omega)) (fun v' hv => by
    simp at hv; subst hv; exact o1)
  rw [Nat.add_zero] at hrun
  have hget : ∀ j c, (cs.set off p)[j]? = some c → (j = off ∧ c = p) ∨ (j ≠ off ∧ cs[j]? = some c) := by
    intro j c hc
    rw [List.getElem?_set] at hc
    split at hc
    · rename_i e; first | (rw [if_pos hoff] at hc; cases hc; exact .inl ⟨e.symm, rfl⟩) | (cases hc; exact .inl ⟨e.symm, rfl⟩)
    · rename_i e; exact .inr ⟨fun e2 => e e2.symm, hc⟩
  have hcat : (w.setCells (G.bs i) off [v]).cell? ⟨G.bs i, off, none⟩ = some v := by
    have := World.cell?_setCells_in (G.bs i) [v] off w (fun j hj => by simp at hj; exact hthere _ (by omega)) 0 (by simp)
    simpa using this
  have hcout : ∀ j, j ≠ off → (w.setCells (G.bs i) off [v]).cell? ⟨G.bs i, j, none⟩ = w.cell? ⟨G.bs i, j, none⟩ := fun j hj => World.cell?_setCells_out _ _ _ _ _ (fun _ _ => by simp only [List.length_cons, List.length_nil]; omega)
  obtain ⟨q1, q2, q3, q4⟩ := sc_same (G.bs i) [v] off w
  have hfin := s1.boxSet (cs' := cs.set off p) hi q1 (fun b hb => sc_other _ _ _ _ _ hb) (sc_spareB ⟨⟨arr, T, fz, a1, by rw [List.length_set]; exact a2, fun j hj hk => a3 j hj (by rw [List.length_set] at hk; exact hk)⟩, hshB, hnfB⟩ _ _ _) (by
      rw [ltAll_iff]; intro c hc
      obtain ⟨j, hj, rfl⟩ := List.getElem_of_mem hc
      rcases hget j _ (List.getElem?_eq_getElem hj) with ⟨_, e⟩ | ⟨_, e⟩
      · rw [e]; exact isOwn_lt ho _
      · exact ltAll_iff.1 hst _ (List.mem_of_getElem? e)) (fun j c hc => by
      rcases hget j c hc with ⟨rfl, rfl⟩ | ⟨hj, e⟩
      · exact ⟨v, hcat, hr⟩
      · obtain ⟨v', h1, h2⟩ := hcell j c e; exact ⟨v', (hcout j hj).trans h1, h2⟩) (fun j v' c b hv hc hb => by
      rcases hget j c hc with ⟨rfl, rfl⟩ | ⟨hj, e⟩
      · rw [hcat] at hv; cases hv
        exact ⟨(hO b hb).1, fun l' hl' => absurd hl' ((hO b hb).2 l')⟩
      · rw [hcout j hj] at hv
        have := ownAt_cell (env := (u, left1 p) :: env) (a := a) hi e hv hb
        exact ⟨s1.fr _ b this, fun l' hl' => s1.uniq _ _ b hl' this⟩) (fun j j' v1 c v1' c' b hv hc hb hv' hc' hb' => by
      rcases hget j c hc with ⟨rfl, rfl⟩ | ⟨hj, e⟩
      · rw [hcat] at hv; cases hv
        rcases hget j' c' hc' with ⟨rfl, rfl⟩ | ⟨hj', e'⟩
        · rfl
        · rw [hcout j' hj'] at hv'
          exact absurd (ownAt_cell (env := (u, left1 c) :: env) (a := a) hi e' hv' hb') ((hO b hb).2 _)
      · rw [hcout j hj] at hv
        rcases hget j' c' hc' with ⟨rfl, rfl⟩ | ⟨hj', e'⟩
        · rw [hcat] at hv'; cases hv'
          exact absurd (ownAt_cell (env := (u, left1 c') :: env) (a := a) hi e hv hb) ((hO b hb').2 _)
        · rw [hcout j' hj'] at hv'
          have := s1.uniq _ _ b (ownAt_cell (env := (u, left1 p) :: env) (a := a) hi e hv hb) (ownAt_cell (env := (u, left1 p) :: env) (a := a) hi e' hv' hb')
          cases this; rfl)
  refine ⟨undef, _, G, _, _, .inr ⟨?_, rfl⟩, hfin, Evol.boxSet s1 hi off _, h⟩
  have o3' : (a.eval (.tmp u)).cells = #[v] := by rw [hva]; exact o3
  have hl : (a.eval (.tmp u)).cells.toList = [v] := by rw [o3']
  simp [execOp, ev, Instr.storeAt, Instr.sureAddr, storeVar, hT.rsize w, hsz, o3', hrun]

/-- A slice of one's own goes into a new box. -/
theorem op_boxT {t : TypeId} {u : Nat} {p : PV} (hp : look env u = p) (ho : p.isOwn = true) (hd : d < n)
    (h : SatOps P l n m all rest ((d, .ptr σ.length 0) :: (u, left1 p) :: env) (σ ++ [.cells [p]]) Q) : SatOps P l n m all (⟨some d, .box t (.tmp u), ty, pos, after, none⟩ :: rest) env σ Q := by
  refine op_gen rfl (by simp) fun F G a w hs => ?_
  obtain ⟨s1, hr, hO⟩ := hs.take hp ho
  have hev : a.eval (.tmp u) = a.tmps.getD u undef := rfl
  rw [← hev] at hr hO
  obtain ⟨o1, o2, o3⟩ := RepO.one hr (isOwn_one ho)
  have hs1 := s1.box (a.eval (.tmp u)).cells t [p] (by rw [o3]; simp) ⟨isOwn_lt ho _, trivial⟩ (fun j v c hv hc => by
      rw [o3] at hv
      cases j with
      | zero => simp at hv hc; subst hv; subst hc; exact hr
      | succ j => simp at hc) ⟨fun j v c b hv hc hb => by
      rw [o3] at hv
      cases j with
      | zero => simp at hv hc; subst hv; subst hc; exact hO b hb
      | succ j => simp at hc, fun j j' v c v' c' b hv hc hb hv' hc' hb' => by
      cases j <;> cases j' <;> simp at hc hc' <;> rfl⟩
  refine ⟨.pointer (some ⟨w.heap.size, 0, none⟩), _, _, _, _, .inl (by simp [execOp, Instr.box, newVar, newRow]), hs1.setS hd (v := .pointer (some ⟨w.heap.size, 0, none⟩)) ?_ (by simp [PV.lt]), Evol.alloc s1 _ _ _ fun i hi => upd_ne _ _ (by have := hs.floor; omega), h⟩
  have : RepS ⟨upd G.K w.heap.size (.box σ.length), upd G.bs σ.length ⟨w.heap.size, (t, (a.eval (.tmp u)).cells.size), false⟩⟩ (w.alloc (.cells (a.eval (.tmp u)).cells t)) (.pointer (some ⟨(upd G.bs σ.length ⟨w.heap.size, (t, (a.eval (.tmp u)).cells.size), false⟩ σ.length).b, 0, none⟩)) (.ptr σ.length 0) := .ptr _ _
  rw [upd_same] at this
  exact this

end
end Go.Proofs.Ytflgoabdgibphaa.Pv
