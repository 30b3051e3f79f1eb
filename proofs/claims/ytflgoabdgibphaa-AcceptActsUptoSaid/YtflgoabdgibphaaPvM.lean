/- Calls: what a function makes of its arguments. -/
import Derived.Test.YtflgoabdgibphaaPvL
import Derived.RangeFuncRecord
namespace Go.Proofs.Ytflgoabdgibphaa.Pv
open Go
set_option linter.unusedVariables false
set_option linter.unusedSimpArgs false

def argFrom : Nat → List PV → Env
  | _, [] => []
  | k, p :: r => (k, p) :: argFrom (k + 1) r
abbrev argEnv (ps : List PV) : Env := argFrom 0 ps

theorem look_argFrom : ∀ (ps : List PV) (k t : Nat), look (argFrom k ps) t = if k ≤ t then (ps[t - k]?).getD .dead else .dead
  | [], k, t => by simp [argFrom, look]
  | p :: r, k, t => by
    rw [argFrom, look_cons, look_argFrom r (k + 1) t]
    by_cases h : t = k
    · subst h; simp
    · rw [if_neg h]
      by_cases h2 : k ≤ t
      · rw [if_pos (by omega), if_pos h2, show t - k = (t - (k + 1)) + 1 by omega, List.getElem?_cons_succ]
      · rw [if_neg (by omega), if_neg h2]

/-- A call: from arguments and a store to a result and a store. -/
def SatCall (P : Program) (f : FuncId) (ps : List PV) (σ : Sto) (R : PV → Sto → Prop) : Prop :=
  ∀ F G w (vs : Array Value), vs.size = ps.length → Sim vs.size σ.length F G (argEnv ps) σ ⟨vs, []⟩ w →
    CallsIn (Wd none) 0 P f vs w fun e w' => ∃ v r σ' G', e = .returned v ∧ R r σ' ∧ Sim 1 σ.length F G' [(0, r)] σ' ⟨#[v], []⟩ w' ∧ Evol σ.length F G w G' w'

theorem SatCall.mono {P : Program} {f : FuncId} {ps : List PV} {σ : Sto} {R R' : PV → Sto → Prop} (h : SatCall P f ps σ R) (hr : ∀ r σ', R r σ' → R' r σ') : SatCall P f ps σ R' :=
  fun F G w vs hl hs => (h F G w vs hl hs).mono fun _ _ ⟨v, r, σ', G', h1, h2, h3, h4⟩ => ⟨v, r, σ', G', h1, hr _ _ h2, h3, h4⟩

/-- The results of a function, read off its slots and boxes. -/
def ResRel (tt : TT) (env : Env) (σ : Sto) : List ResultVar → List PV → Prop
  | [], [] => True
  | .tmp t :: rs, p :: ps => Wk p (look env t) ∧ ResRel tt env σ rs ps
  | .cell a t :: rs, p :: ps => (∃ i off ti cs c, look env a = .ptr i off ∧ tl tt t = some ti ∧ σ[i]? = some (.cells cs) ∧ loadB ti cs off = some (c, p) ∧ c) ∧ ResRel tt env σ rs ps
  | _, _ => False

def resSlots : List ResultVar → List Nat
  | [] => []
  | .tmp t :: rs => t :: resSlots rs
  | _ :: rs => resSlots rs

def PV.isTup : PV → Bool
  | .tup _ => true
  | _ => false

def resOf : List PV → PV
  | [p] => p
  | ps => .tup ps

/-- No place in the store leads beyond it. -/
def StoOK (σ : Sto) : Prop := ∀ (i : Nat) e, σ[i]? = some e → e.lt σ.length

def fnPost (tt : TT) (fn : Func) (m : Nat) (R : PV → Sto → Prop) : Post := fun e env σ =>
  (e = .normal ∨ e = .ret) ∧ ∃ ps τ ex, ResRel tt env σ fn.results.toList ps ∧ (∀ p ∈ ps, p.isTup = false) ∧ σ = τ ++ ex ∧ (ex = [] ∨ (m ≤ τ.length ∧ StoOK τ)) ∧ ltAll τ.length ps ∧ R (resOf ps) τ

section
variable {n m : Nat} {F : Nat → Prop} {G : Gh} {env : Env} {σ : Sto} {a : Act} {w : World}

theorem loadB_ok {P : Program} {tt : TT} (ht : TabOK P tt) (hs : Sim n m F G env σ a w) {t i off : Nat} {ti : TI} {cs : List PV} {c : Prop} {p : PV} (hti : tl tt t = some ti)
    (hi : σ[i]? = some (.cells cs)) (hl : loadB ti cs off = some (c, p)) (hc : c) : ∃ v, (loadVar t ⟨G.bs i, off, none⟩).run P w = .ok v w ∧ RepS G w v p ∧ p.lt σ.length := by
  obtain ⟨hK, hsp, hcell⟩ := hs.sto i _ hi
  have hst := hs.stolt i _ hi
  simp only [Ent.lt] at hst
  have hT := ht _ _ hti
  unfold loadB at hl
  split at hl
  · rename_i hd'
    split at hl
    · rename_i hall
      cases hl
      have hv : ∀ j, ∃ v, j < ti.size → w.cell? ⟨G.bs i, off + j, none⟩ = some v ∧ ∀ c, ((cs.drop off).take ti.size)[j]? = some c → RepS G w v (shr1 c) := by
        intro j
        by_cases hj : j < ti.size
        · have hlt : off + j < cs.length := by omega
          obtain ⟨v, h1, h2⟩ := hcell (off + j) cs[off + j] (by simp [hlt])
          refine ⟨v, fun _ => ⟨h1, fun c hc' => ?_⟩⟩
          have hc2 : c = cs[off + j] := by
            rw [List.getElem?_take, if_pos hj, List.getElem?_drop] at hc'
            simpa [hlt] using hc'.symm
          subst hc2
          rcases h2.shr1 with e | e
          · exfalso
            have := List.all_eq_true.1 hall (shr1 cs[off + j]) (List.mem_map.2 ⟨_, List.mem_of_getElem? hc', rfl⟩)
            rw [e] at this; cases this
          · exact e
        · exact ⟨undef, fun h => absurd h hj⟩
      obtain ⟨vs, hvs⟩ := Classical.axiomOfChoice hv
      have hrun := run_loadCells (P := P) w ⟨G.bs i, off, none⟩ ti.size vs (fun j hj => by rw [add_eq rfl]; exact (hvs j hj).1)
      refine ⟨.agg ((List.range ti.size).map vs).toArray, ?_, .agg _ _ ?_ fun j v c h1 h2 => ?_, ?_⟩
      · simp [loadVar, hT.ragg w, hd', hT.rsize w, hrun]
      · simp; omega
      · rw [List.getElem?_map, Option.map_eq_some_iff] at h2
        obtain ⟨c', h2, rfl⟩ := h2
        have hj : j < ti.size := by
          have := (List.getElem?_eq_some_iff.1 h2).1
          simp at this; omega
        simp [hj] at h1
        subst h1
        exact (hvs j hj).2 c' h2
      · simp only [PV.lt]; rw [ltAll_iff]; intro v hv'
        obtain ⟨c', h2, rfl⟩ := List.mem_map.1 hv'
        exact shr1_lt (ltAll_iff.1 hst c' (List.mem_of_mem_drop (List.mem_of_mem_take h2)))
    · cases hl
  · rename_i hd'
    split at hl
    · rename_i c0 r hcs
      split at hl
      · rename_i hS
        cases hl
        have h0 : cs[off]? = some c0 := by have := List.getElem?_drop (xs := cs) (i := off) (j := 0); rw [hcs] at this; simpa using this.symm
        obtain ⟨v, h1, h2⟩ := hcell off c0 h0
        refine ⟨v, by simp [loadVar, hT.ragg w, hd', run_load, h1], ?_, shr1_lt (ltAll_iff.1 hst c0 (List.mem_of_getElem? h0))⟩
        rcases h2.shr1 with e | e
        · rw [e] at hS; cases hS
        · exact e
      · cases hl
    · cases hl

/-- What one result reads as. -/
def resRun (tmps : Array Value) : ResultVar → Sem Value
  | .tmp t => pure (tmps.getD t undef)
  | .cell a t => do loadVar t (← asAddr (tmps.getD a undef))

theorem res_ok {P : Program} {tt : TT} (ht : TabOK P tt) (hs : Sim n m F G env σ a w) : ∀ (rs : List ResultVar) (ps : List PV), ResRel tt env σ rs ps → (∀ p ∈ ps, p.isTup = false) → (resSlots rs).Nodup →
    ∃ vs : List Value, (rs.mapM (resRun a.tmps)).run P w = .ok vs w ∧ vs.length = ps.length ∧ rs.length = ps.length ∧ (∀ (j : Nat) v p, vs[j]? = some v → ps[j]? = some p → RepO G w v p ∧ p.lt σ.length ∧ ∀ b, ownB v p = some b → ∃ t, rs[j]? = some (.tmp t) ∧ ownAt G env σ a.tmps w (.slot t 0) = some b)
  | [], [], _, _, _ => ⟨[], rfl, rfl, rfl, fun j v p h => by simp at h⟩
  | .tmp t :: rs, p :: ps, ⟨h1, h2⟩, htup, hnd => by
    obtain ⟨vs, k1, k2, k3, k4⟩ := res_ok ht hs rs ps h2 (fun q hq => htup q (List.mem_cons_of_mem _ hq)) (by simp only [resSlots, List.nodup_cons] at hnd; exact hnd.2)
    have hp := htup p List.mem_cons_self
    have hrep : RepO G w (a.tmps.getD t undef) p := (h1.rep (hs.rep t)).toO (fun qs e => by subst e; cases hp)
    refine ⟨a.tmps.getD t undef :: vs, by simp [List.mapM_cons, resRun, k1], by simp [k2], by simp [k3], fun j v q hv hq => ?_⟩
    cases j with
    | zero =>
      simp only [List.getElem?_cons_zero, Option.some.injEq] at hv hq
      subst hv; subst hq
      refine ⟨hrep, h1.lt (hs.envlt t), fun b hb => ⟨t, rfl, ?_⟩⟩
      have h0 : ownSlot (a.tmps.getD t undef) p 0 = some b := by
        unfold ownSlot
        cases p <;> first | (cases hp; done) | (simpa using hb)
      simp only [ownAt]
      rw [← h1.own _ _ _ h0]; exact h0
    | succ j =>
      simp only [List.getElem?_cons_succ] at hv hq
      obtain ⟨q1, q2, q3⟩ := k4 j v q hv hq
      exact ⟨q1, q2, fun b hb => let ⟨t', e1, e2⟩ := q3 b hb; ⟨t', by simpa using e1, e2⟩⟩
  | .cell x t :: rs, p :: ps, ⟨⟨i, off, ti, cs, c, h1, h2, h3, h4, h5⟩, hrest⟩, htup, hnd => by
    obtain ⟨vs, k1, k2, k3, k4⟩ := res_ok ht hs rs ps hrest (fun q hq => htup q (List.mem_cons_of_mem _ hq)) hnd
    have hx := hs.rep x
    rw [h1] at hx
    have ex := (hx.toS rfl).ptrv
    obtain ⟨v0, r1, r2, r3⟩ := loadB_ok ht hs h2 h3 h4 h5
    refine ⟨v0 :: vs, ?_, by simp [k2], by simp [k3], fun j v q hv hq => ?_⟩
    · simp only [List.mapM_cons, resRun, Sem.run_bind, ex, asAddr, Sem.run_pure, Result.andThen_ok, r1, k1]
    · cases j with
      | zero =>
        simp only [List.getElem?_cons_zero, Option.some.injEq] at hv hq
        subst hv; subst hq
        exact ⟨.sh r2, r3, fun b hb => by rw [ownB_sh r2] at hb; cases hb⟩
      | succ j =>
        simp only [List.getElem?_cons_succ] at hv hq
        obtain ⟨q1, q2, q3⟩ := k4 j v q hv hq
        exact ⟨q1, q2, fun b hb => let ⟨t', e1, e2⟩ := q3 b hb; ⟨t', by simpa using e1, e2⟩⟩
  | .tmp _ :: _, [], h, _, _ => h.elim
  | .cell _ _ :: _, [], h, _, _ => h.elim
  | [], _ :: _, h, _, _ => h.elim

theorem slots_inj : ∀ {rs : List ResultVar} {i j t : Nat}, (resSlots rs).Nodup → rs[i]? = some (.tmp t) → rs[j]? = some (.tmp t) → i = j
  | [], _, _, _, _, h, _ => by simp at h
  | r :: rs, i, j, t, hnd, hi, hj => by
    have mem : ∀ {rs : List ResultVar} {k : Nat}, rs[k]? = some (.tmp t) → t ∈ resSlots rs := by
      intro rs
      induction rs with
      | nil => intro k h; simp at h
      | cons r rs ih =>
        intro k h
        cases k with
        | zero => simp at h; subst h; simp [resSlots]
        | succ k => simp at h; have := ih h; cases r <;> simp [resSlots, this]
    cases i with
    | zero => cases j with
      | zero => rfl
      | succ j =>
        simp at hi hj; subst hi
        simp only [resSlots, List.nodup_cons] at hnd
        exact absurd (mem hj) hnd.1
    | succ i => cases j with
      | zero =>
        simp at hi hj; subst hj
        simp only [resSlots, List.nodup_cons] at hnd
        exact absurd (mem hi) hnd.1
      | succ j =>
        simp at hi hj
        have : (resSlots rs).Nodup := by cases r <;> simp only [resSlots, List.nodup_cons] at hnd <;> first | exact hnd.2 | exact hnd
        rw [slots_inj this hi hj]

/-- The end of an activation: its results, and what is left of the store. -/
theorem Sim.leave (hs : Sim n m F G env σ a w) {ps : List PV} {vs : List Value} {rs : List ResultVar} (hnd : (resSlots rs).Nodup) (htup : ∀ p ∈ ps, p.isTup = false) (hl : vs.length = ps.length)
    (hrep : ∀ (j : Nat) v p, vs[j]? = some v → ps[j]? = some p → RepO G w v p ∧ p.lt σ.length ∧ ∀ b, ownB v p = some b → ∃ t, rs[j]? = some (.tmp t) ∧ ownAt G env σ a.tmps w (.slot t 0) = some b)
    {k : Nat} (hmk : m ≤ k) (hk : k ≤ σ.length) (hlt : ltAll k ps) (hst : ∀ (i : Nat) e, σ[i]? = some e → i < k → e.lt k) {v0 : Value} (hv0 : v0 = if h : vs.toArray.size = 1 then vs.toArray[0] else .tuple vs.toArray) :
    Sim 1 m F G [(0, resOf ps)] (σ.take k) ⟨#[v0], []⟩ w := by
  have hget : ∀ (i : Nat) e, (σ.take k)[i]? = some e → i < k ∧ σ[i]? = some e := by
    intro i e h
    rw [List.getElem?_take] at h
    split at h
    · exact ⟨‹_›, h⟩
    · cases h
  have hlen : (σ.take k).length = k := by simp; omega
  have hR : Rep G w v0 (resOf ps) ∧ (resOf ps).lt k ∧ ∀ j b, ownSlot v0 (resOf ps) j = some b →
      ∃ v p, vs[j]? = some v ∧ ps[j]? = some p ∧ ownB v p = some b := by
    rcases ps with _ | ⟨p, _ | ⟨p', ps⟩⟩
    · have : vs = [] := List.length_eq_zero_iff.1 hl
      subst this
      subst hv0
      refine ⟨?_, trivial, fun j b hb => ?_⟩
      · exact .tup #[] [] rfl fun j v c h1 _ => by simp at h1
      · simp [resOf, ownSlot] at hb
    · obtain ⟨v, rfl⟩ := List.length_eq_one_iff.1 hl
      obtain ⟨h1, h2, h3⟩ := hrep 0 v p rfl rfl
      have hp := htup p List.mem_cons_self
      have : v0 = v := hv0
      subst this
      clear hv0
      refine ⟨.one h1, hlt.1, fun j b hb => ?_⟩
      have hov : ∀ j b, ownSlot v0 p j = some b → j = 0 ∧ ownB v0 p = some b := by
        intro j b h
        unfold ownSlot at h
        split at h
        · cases hp
        · split at h
          · exact ⟨‹_›, h⟩
          · cases h
      obtain ⟨e0, hb'⟩ := hov j b hb
      subst e0
      exact ⟨v0, p, rfl, rfl, hb'⟩
    · have hne : ¬ vs.toArray.size = 1 := by simp; rw [hl]; simp
      rw [dif_neg hne] at hv0
      subst hv0
      refine ⟨.tup _ _ (by simp [hl]) fun j v c h1 h2 => (hrep j v c (by simpa using h1) h2).1, hlt, fun j b hb => ?_⟩
      simp only [resOf, ownSlot] at hb
      split at hb
      · rename_i v q hv hq; exact ⟨v, q, by simpa using hv, hq, hb⟩
      · cases hb
  have hslot : ∀ t j b, ownAt G [(0, resOf ps)] (σ.take k) #[v0] w (.slot t j) = some b → t = 0 ∧ ∃ t', rs[j]? = some (.tmp t') ∧ ownAt G env σ a.tmps w (.slot t' 0) = some b := by
    intro t j b hb
    simp only [ownAt] at hb
    by_cases h0 : t = 0
    · subst h0
      simp only [look_cons, if_true] at hb
      obtain ⟨v, p, h1, h2, h3⟩ := hR.2.2 j b hb
      obtain ⟨t', h4, h5⟩ := (hrep j v p h1 h2).2.2 b h3
      exact ⟨rfl, t', h4, h5⟩
    · rw [look_cons, if_neg h0] at hb
      simp only [look] at hb
      rw [ownSlot_dead] at hb; cases hb
  have hcell : ∀ i j b, ownAt G [(0, resOf ps)] (σ.take k) #[v0] w (.cell i j) = some b → ownAt G env σ a.tmps w (.cell i j) = some b := by
    intro i j b hb
    simp only [ownAt] at hb ⊢
    cases hi : (σ.take k)[i]? with
    | none => rw [hi] at hb; cases hb
    | some e => rw [hi] at hb; rw [(hget i e hi).2]; exact hb
  refine ⟨rfl, fun t => ?_, fun t => ?_, fun i e hi => hs.sto i e (hget i e hi).2, fun i e hi => ?_, hs.kfree, fun i e hi => hs.inj i e (hget i e hi).2, fun l1 l2 b h1 h2 => ?_, fun l b hl' => ?_, hs.frlt, trivial, fun d hd => (by cases hd), by rw [hlen]; exact hmk⟩
  · rw [look_cons]; split
    · rename_i e; subst e; exact hR.1
    · exact .one (.dead _)
  · rw [hlen, look_cons]; split
    · exact hR.2.1
    · trivial
  · rw [hlen]; exact hst i e (hget i e hi).2 (hget i e hi).1
  · cases l1 with
    | slot t1 j1 =>
      obtain ⟨rfl, t1', e1, o1⟩ := hslot _ _ _ h1
      cases l2 with
      | slot t2 j2 =>
        obtain ⟨rfl, t2', e2, o2⟩ := hslot _ _ _ h2
        have := hs.uniq _ _ b o1 o2
        cases this
        rw [slots_inj hnd e1 e2]
      | cell i j => have := hs.uniq _ _ b o1 (hcell _ _ _ h2); cases this
    | cell i1 j1 =>
      cases l2 with
      | slot t2 j2 =>
        obtain ⟨rfl, t2', e2, o2⟩ := hslot _ _ _ h2
        have := hs.uniq _ _ b o2 (hcell _ _ _ h1); cases this
      | cell i j => exact hs.uniq _ _ b (hcell _ _ _ h1) (hcell _ _ _ h2)
  · cases l with
    | slot t1 j1 => obtain ⟨rfl, t1', e1, o1⟩ := hslot _ _ _ hl'; exact hs.fr _ b o1
    | cell i1 j1 => exact hs.fr _ b (hcell _ _ _ hl')

end
end Go.Proofs.Ytflgoabdgibphaa.Pv
