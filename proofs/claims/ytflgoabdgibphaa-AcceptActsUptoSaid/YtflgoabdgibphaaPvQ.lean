/- Loops over functions: the loop's record among the boxes, a round of the caller's body, the statement. -/
import Derived.Test.YtflgoabdgibphaaPvP
import Derived.RangeFuncIn
namespace Go.Proofs.Ytflgoabdgibphaa.Pv
open Go
set_option linter.unusedVariables false
set_option linter.unusedSimpArgs false

section
variable {n m : Nat} {F : Nat → Prop} {G : Gh} {env : Env} {σ : Sto} {a : Act} {w : World}

theorem ownSlot_nil {v : Value} {p : PV} (h : p = .dead ∨ RepS G w v p) (j b : Nat) : ownSlot v p j ≠ some b := by
  intro hb
  rcases h with rfl | h
  · rw [ownSlot_dead] at hb; cases hb
  · unfold ownSlot at hb
    split at hb
    · exact h.notup
    · split at hb
      · rw [ownB_sh h] at hb; cases hb
      · cases hb

/-- A frame that holds nothing of its own, beside the caller's. -/
theorem Sim.frame (h : Sim n m F G env σ a w) {tmps : Array Value} {env' : Env} (hr : ∀ t, look env' t = .dead ∨ RepS G w (tmps.getD t undef) (look env' t)) (hlt : ∀ t, (look env' t).lt σ.length) :
    Sim tmps.size σ.length F G env' σ ⟨tmps, []⟩ w := by
  have hslot : ∀ t j b, ownAt G env' σ tmps w (.slot t j) ≠ some b := fun t j b hb => ownSlot_nil (hr t) j b hb
  refine ⟨rfl, fun t => ?_, hlt, h.sto, h.stolt, h.kfree, h.inj, fun l1 l2 b h1 h2 => ?_, fun l b hl' hF => ?_, h.frlt, trivial, fun d hd => (by cases hd), Nat.le_refl _⟩
  · rcases hr t with e | e
    · rw [e]; exact .one (.dead _)
    · exact .one (.sh e)
  · cases l1 with
    | slot t j => exact absurd h1 (hslot t j b)
    | cell i j => cases l2 with
      | slot t j => exact absurd h2 (hslot t j b)
      | cell i' j' => exact h.uniq (.cell i j) (.cell i' j') b h1 h2
  · cases l with
    | slot t j => exact absurd hl' (hslot t j b)
    | cell i j => exact h.fr (.cell i j) b hl' hF

/-- The record of a loop turns. -/
theorem Sim.setLoop (h : Sim n m F G env σ a w) {i : Nat} {st : LoopState} {pend : Option Code} {rec : Loop} {env0 : Env} (hi : σ[i]? = some (.loop st pend rec env0)) (st' : LoopState) (pend' : Option Code) :
    Sim n m F G env (σ.set i (.loop st' pend' rec env0)) a (w.putObj (G.bs i) (.loop { rec with state := st', pending := pend' })) ∧
      Evol m F G w G (w.putObj (G.bs i) (.loop { rec with state := st', pending := pend' })) := by
  obtain ⟨hK, hb, hr⟩ := h.sto i _ hi
  have hilt : i < σ.length := (List.getElem?_eq_some_iff.1 hi).1
  have hnF := h.inj i _ hi (.inr ⟨_, _, _, _, rfl⟩)
  generalize ho : Obj.loop { rec with state := st', pending := pend' } = o
  have hoth : ∀ x : Nat, x ≠ (G.bs i).b → (w.putObj (G.bs i) o).heap[x]? = w.heap[x]? := fun x hx => World.putObj_heap_other hx
  have hle : ImmLe G.K w G.K (w.putObj (G.bs i) o) := fun x p hx => ⟨p, Nat.le_refl _, hx, fun j _ => cell_eq (hoth x fun e => by rw [e, hK] at hx; cases hx)⟩
  have hne : ∀ k cs, σ[k]? = some (.cells cs) → (G.bs k).b ≠ (G.bs i).b := fun k cs hk e => by
    have := (h.sto k _ hk).1
    rw [e, hK] at this
    cases this; rw [hi] at hk; cases hk
  have hget : ∀ k e, (σ.set i (.loop st' pend' rec env0))[k]? = some e → (k = i ∧ e = .loop st' pend' rec env0) ∨ (k ≠ i ∧ σ[k]? = some e) := by
    intro k e hk
    rw [List.getElem?_set] at hk
    split at hk
    · rename_i e1; cases hk; exact .inl ⟨e1.symm, rfl⟩
    · rename_i e1; exact .inr ⟨fun e2 => e1 e2.symm, hk⟩
  have key : ∀ l, ownAt G env (σ.set i (.loop st' pend' rec env0)) a.tmps (w.putObj (G.bs i) o) l = ownAt G env σ a.tmps w l := by
    intro l
    cases l with
    | slot t j => rfl
    | cell k j =>
      simp only [ownAt]
      by_cases e : k = i
      · subst e; rw [hi, List.getElem?_set_self hilt]
      · rw [List.getElem?_set_ne (fun e2 => e e2.symm)]
        cases hk : σ[k]? with
        | none => rfl
        | some e => cases e with
          | cells cs => simp only [cell_eq (hoth (G.bs k) (hne k cs hk))]
          | _ => rfl
  have hown : ∀ l x, ownAt G env σ a.tmps w l = some x → (w.putObj (G.bs i) o).heap[x]? = w.heap[x]? := fun l x hl => hoth x fun e => by
    have := own_kind h hl
    rw [e, hK] at this
    rcases this with h | ⟨q, h⟩ <;> cases h
  refine ⟨⟨h.size, fun t => (h.rep t).mono hle (fun _ _ => rfl) (h.envlt t) fun j x hx => ⟨hown (.slot t j) x hx, rfl⟩, fun t => by rw [List.length_set]; exact h.envlt t, fun k e hk => ?_, fun k e hk => ?_, fun x hx => by simpa using h.kfree x hx, fun k e hk hc => ?_, fun l1 l2 x h1 h2 => ?_, fun l x hl => ?_, fun x hx => by simpa using h.frlt x hx, ?_, h.markF, by rw [List.length_set]; exact h.floor⟩, ?_⟩
  · rcases hget k e hk with ⟨rfl, rfl⟩ | ⟨hki, hk⟩
    · refine ⟨hK, ?_, fun t => (hr t).imp_right fun hr => hr.mono (n := σ.length) hle (fun _ _ => rfl) (h.stolt k _ hi t)⟩
      rw [← ho]; exact World.putObj_heap_same (Array.getElem?_eq_some_iff.1 hb).1
    · have h1 := h.sto k e hk
      cases e with
      | cells cs =>
        obtain ⟨h2, h3, h4⟩ := h1
        have hbb := hoth _ (hne k cs hk)
        refine ⟨h2, h3.mono hbb, fun j c hc => ?_⟩
        obtain ⟨v, hv, hr⟩ := h4 j c hc
        refine ⟨v, (cell_eq hbb).trans hv, hr.mono (n := σ.length) hle (fun _ _ => rfl) ?_ fun x hx => ⟨hown (.cell k j) x (ownAt_cell (env := env) (a := a) hk hc hv hx), rfl⟩⟩
        have := h.stolt k _ hk
        simp only [Ent.lt] at this
        exact ltAll_iff.1 this c (List.mem_of_getElem? hc)
      | gone => trivial
      | loop x y z u =>
        obtain ⟨h2, h3, h4⟩ := h1
        exact ⟨h2, (hoth _ fun e => by rw [e, hK] at h2; cases h2; exact hki rfl).trans h3, fun t => (h4 t).imp_right fun hr => hr.mono (n := σ.length) hle (fun _ _ => rfl) (h.stolt k _ hk t)⟩
  · rw [List.length_set]
    rcases hget k e hk with ⟨rfl, rfl⟩ | ⟨_, hk⟩
    · exact (h.stolt k _ hi : ∀ t, (look env0 t).lt σ.length)
    · exact h.stolt k e hk
  · rcases hget k e hk with ⟨rfl, rfl⟩ | ⟨_, hk⟩
    · exact hnF
    · exact h.inj k e hk hc
  · rw [key] at h1 h2; exact h.uniq l1 l2 x h1 h2
  · rw [key] at hl; exact h.fr l x hl
  · refine h.marks.mono fun d hd x hx => ⟨hoth x fun e => ?_, rfl⟩
    obtain ⟨x', e1, h2, _⟩ := mark_kind h d hd
    subst e1; cases hx
    rw [e, hK] at h2; cases h2
  · exact ⟨rfl, rfl, rfl, by simp, fun x hx => ⟨hoth x fun e => hnF (e ▸ hx), rfl⟩, hle, fun _ _ => rfl⟩

/-- A new block, with a mark on it. -/
theorem Sim.pushMark (h : Sim n m F G env σ a w) : Sim n m F ⟨upd G.K w.heap.size .keep, G.bs⟩ env σ { a with defers := { target := .collected w.heap.size, args := #[] } :: a.defers } (w.alloc (.deferred (some []))) := by
  have h1 := h.alloc (.deferred (some [])) .keep
  refine ⟨h1.size, h1.rep, h1.envlt, h1.sto, h1.stolt, h1.kfree, h1.inj, h1.uniq, h1.fr, h1.frlt, ⟨⟨w.heap.size, rfl, upd_same _ _ _, World.alloc_heap_new w _, fun d hd e => ?_⟩, h1.marks⟩, fun d hd b hb hF => ?_, h1.floor⟩
  · obtain ⟨b, e1, _, hb⟩ := mark_kind h d hd
    rw [e1] at e; injection e with e2 _; injection e2 with e3; omega
  · cases hd with
    | head => cases hb; exact absurd (h.frlt _ hF) (Nat.lt_irrefl _)
    | tail _ hd => exact h1.markF d hd b hb hF

/-- The record of a loop is a box of its own. -/
theorem Sim.boxLoop (h : Sim n m F G env σ a w) (rec : Loop) (env0 : Env) (hlt : ∀ t, (look env0 t).lt σ.length) (hr : ∀ t, look env0 t = .dead ∨ RepS G w (rec.tmps.getD t undef) (look env0 t))
    (h1 : rec.state = .ready) (h2 : rec.pending = none) :
    Sim n m F ⟨upd G.K w.heap.size (.box σ.length), upd G.bs σ.length ⟨w.heap.size, (0, 0), false⟩⟩ env (σ ++ [.loop .ready none rec env0]) a (w.alloc (.loop rec)) := by
  have h1' := h.alloc (.loop rec) (.box σ.length)
  have hle := ImmLe.alloc h (.loop rec) (.box σ.length)
  have hbs : ∀ i, i < σ.length → upd G.bs σ.length ⟨w.heap.size, (0, 0), false⟩ i = G.bs i := fun i hi => upd_ne _ _ (by omega)
  have hget : ∀ i e, (σ ++ [Ent.loop .ready none rec env0])[i]? = some e → (i < σ.length ∧ σ[i]? = some e) ∨ (i = σ.length ∧ e = .loop .ready none rec env0) := by
    intro i e hi
    by_cases hlt : i < σ.length
    · rw [List.getElem?_append_left hlt] at hi; exact .inl ⟨hlt, hi⟩
    · rw [List.getElem?_append_right (by omega)] at hi
      cases hk : i - σ.length with
      | zero => rw [hk] at hi; simp at hi; exact .inr ⟨by omega, hi.symm⟩
      | succ k => rw [hk] at hi; simp at hi
  have key : ∀ l, ownAt ⟨upd G.K w.heap.size (.box σ.length), upd G.bs σ.length ⟨w.heap.size, (0, 0), false⟩⟩ env (σ ++ [.loop .ready none rec env0]) a.tmps (w.alloc (.loop rec)) l =
      ownAt ⟨upd G.K w.heap.size (.box σ.length), G.bs⟩ env σ a.tmps (w.alloc (.loop rec)) l := by
    intro l
    cases l with
    | slot t j => rfl
    | cell i j =>
      simp only [ownAt]
      by_cases hlt' : i < σ.length
      · rw [List.getElem?_append_left hlt', hbs i hlt']
      · rw [List.getElem?_append_right (by omega), List.getElem?_eq_none (l := σ) (by omega)]
        cases hk : i - σ.length with
        | zero => rfl
        | succ k => rfl
  have le1 : σ.length ≤ (σ ++ [Ent.loop .ready none rec env0]).length := by simp
  refine ⟨h1'.size, fun t => ?_, fun t => lt_mono le1 (h.envlt t), fun i e hi => ?_, fun i e hi => ?_, fun b hb => h1'.kfree b hb, fun i e hi hc => ?_, fun l1 l2 b g1 g2 => ?_, fun l b hl => ?_, h1'.frlt, h1'.marks, h1'.markF, Nat.le_trans h.floor le1⟩
  · exact (h1'.rep t).mono (ImmLe.refl _ _) hbs (h.envlt t) (fun _ _ _ => ⟨rfl, rfl⟩)
  · rcases hget i e hi with ⟨hlt', hi'⟩ | ⟨rfl, rfl⟩
    · have h2 := h1'.sto i e hi'
      cases e with
      | cells cs' =>
        obtain ⟨g1, g2, g3⟩ := h2
        refine ⟨by simp only [hbs i hlt']; exact g1, by simp only [hbs i hlt']; exact g2, fun j c hc => ?_⟩
        obtain ⟨v, hv, hR⟩ := g3 j c hc
        refine ⟨v, by simp only [hbs i hlt']; exact hv, hR.mono (ImmLe.refl _ _) hbs ?_ (fun _ _ => ⟨rfl, rfl⟩)⟩
        have := h.stolt i _ hi'
        simp only [Ent.lt] at this
        exact ltAll_iff.1 this c (List.mem_of_getElem? hc)
      | gone => trivial
      | loop x y z u =>
        obtain ⟨g1, g2, g3⟩ := h2
        exact ⟨by simp only [hbs i hlt']; exact g1, by simp only [hbs i hlt']; exact g2, fun t => (g3 t).imp_right fun hr => hr.mono (ImmLe.refl _ _) hbs (h.stolt i _ hi' t)⟩
    · refine ⟨by simp only [upd_same], ?_, fun t => (hr t).imp_right fun hr => hr.mono hle hbs (hlt t)⟩
      simp only [upd_same]
      rw [World.alloc_heap_new]
      cases rec; cases h1; cases h2; rfl
  · rcases hget i e hi with ⟨_, hi'⟩ | ⟨rfl, rfl⟩
    · have := h.stolt i e hi'
      cases e with
      | cells cs' => exact ltAll_iff.2 fun v hv => lt_mono le1 (ltAll_iff.1 this v hv)
      | gone => trivial
      | loop x y z u => exact fun t => lt_mono le1 (this t)
    · exact fun t => lt_mono le1 (hlt t)
  · rcases hget i e hi with ⟨hlt', hi'⟩ | ⟨rfl, rfl⟩
    · simp only [hbs i hlt']; exact h1'.inj i e hi' hc
    · simp only [upd_same]; intro hF; exact absurd (h.frlt _ hF) (Nat.lt_irrefl _)
  · rw [key] at g1 g2; exact h1'.uniq l1 l2 b g1 g2
  · rw [key] at hl; exact h1'.fr l b hl

end

/-- A call of a loop's yield, where a walk of the function that is ranged over comes to it. -/
def SatYield (P : Program) (i : Nat) (ps : List PV) (σ : Sto) (R : Bool → Sto → Prop) : Prop :=
  ∀ F G w (vs : Array Value), vs.size = ps.length → Sim vs.size σ.length F G (argEnv ps) σ ⟨vs, []⟩ w →
    ∃ fn tmps assign body, (Instr.yield (G.bs i) vs).run P w = .ok (.round (G.bs i) fn tmps assign body) w ∧
      RoundIn (Wd none) 0 P (G.bs i) fn tmps assign body w fun e w' => ∃ b σ' G', e = .returned (.bool b) ∧ R b σ' ∧ Sim 1 σ.length F G' [(0, .bool b)] σ' ⟨#[.bool b], []⟩ w' ∧ Evol σ.length F G w G' w'

theorem SatYield.mono {P : Program} {i : Nat} {ps : List PV} {σ : Sto} {R R' : Bool → Sto → Prop} (h : SatYield P i ps σ R) (hr : ∀ b σ', R b σ' → R' b σ') : SatYield P i ps σ R' :=
  fun F G w vs hl hs => let ⟨fn, tmps, assign, body, h1, h2⟩ := h F G w vs hl hs
    ⟨fn, tmps, assign, body, h1, h2.mono fun _ _ ⟨b, σ', G', e1, e2, e3, e4⟩ => ⟨b, σ', G', e1, hr _ _ e2, e3, e4⟩⟩

section
variable {P : Program} {l : Option Nat} {tt : TT} {n m : Nat} {all : Array Oper} {rest : List Oper} {env : Env} {σ : Sto} {Q : Post} {d : Nat} {ty : TypeId} {pos : String} {after : Array Edge}

theorem op_yield {fo : Operand} {args : Array Operand} {ats : Array TypeId} {i : Nat} {ps : List PV} {R : Bool → Sto → Prop} (hfo : opv tt env 0 fo = .yld i)
    (hps : passL tt env args.toList ats.toList = ps) (hlen : args.size ≤ ats.size) (htup : ps.all (fun p => !p.isTup) = true)
    (hc : SatYield P i ps σ R) (hd : d < n) (h : ∀ b σ', R b σ' → SatOps P l n m all rest ((d, .bool b) :: env) σ' Q) :
    SatOps P l n m all (⟨some d, .call ⟨.value fo, args, ats⟩, ty, pos, after, none⟩ :: rest) env σ Q := by
  refine ⟨fun F G a w hs => ?_⟩
  have hfo' := opv_ok hs tt 0 fo
  rw [hfo] at hfo'
  have e1 : a.eval fo = .func (.yield (G.bs i)) #[] #[] := by
    have := hfo'.toS rfl
    generalize a.eval fo = v at this
    cases this with
    | pl h => cases h
    | yld => rfl
  obtain ⟨p1, p2⟩ := pass_all hs args.toList ats.toList (by simpa using hlen) (by rw [hps]; exact htup)
  rw [hps] at p1 p2
  have hlen' : (args.map a.eval).size = ps.length := by rw [← p1]; simp
  have hsim := hs.callee (vs := args.map a.eval) hlen' fun j v p hv hp => p2 j v p (by rw [← Array.getElem?_toList] at hv; simpa using hv) hp
  obtain ⟨fn, tmps, assign, body, hy, hround⟩ := hc _ G w _ hlen' hsim
  have hrun : (execOp a.eval ⟨some d, .call ⟨.value fo, args, ats⟩, ty, pos, after, none⟩).run P w = .ok (.round (G.bs i) fn tmps assign body) w := by
    simp [execOp, resolve, e1, Deferred.ofValue, invoke, hy]
  refine list_run rfl ⟨fun _ _ => trivial, ?_⟩
  rw [show (Wd l).round = l from rfl, Oper.semAt_eq l _ _ (by simp), hrun]
  refine ⟨fun h => by simp [Wd, Fence.wide] at h, ?_⟩
  refine RoundIn.mono (F := Wd none) hround fun e w' hq => ?_
  obtain ⟨b, σ', G', rfl, hR, hs', hv⟩ := hq
  obtain ⟨b1, _, b3⟩ := hs.back hs' hv
  exact list_evol b3 rest _ _ ((h b σ' hR).go F G' _ w' (b1 d hd))

end

/-- The slots of a round. -/
def roundEnv : List Nat → List PV → Env → Env
  | t :: ts, p :: ps, env => roundEnv ts ps ((t, p) :: env)
  | _, _, env => env

/-- What is asked at a round's end. -/
def rndPost (i : Nat) (rec : Loop) (env0 : Env) (R : Bool → Sto → Prop) : Post := fun e _ σ =>
  σ[i]? = some (.loop .busy none rec env0) ∧ match e with
    | .normal => R true (σ.set i (.loop .ready none rec env0))
    | .ret => R false (σ.set i (.loop .done (some .ret) rec env0))
    | .exit id => R false (σ.set i (.loop .done (some (.exit id)) rec env0))
    | .goto t => R false (σ.set i (.loop .done (some (.goto t)) rec env0))
    | _ => False

theorem round_slots {G : Gh} {w : World} {k : Nat} : ∀ (ts : List Nat) (vs : List Value) (ps : List PV) (tmps : Array Value) (env0 : Env), ts.length = ps.length → vs.length = ps.length →
    (∀ t ∈ ts, t < tmps.size) → (∀ t, look env0 t = .dead ∨ RepS G w (tmps.getD t undef) (look env0 t)) → (∀ t, (look env0 t).lt k) →
    (∀ (j : Nat) v p, vs[j]? = some v → ps[j]? = some p → RepS G w v p ∧ p.lt k) →
    (∀ t, look (roundEnv ts ps env0) t = .dead ∨ RepS G w (((ts.zip vs).foldl (fun tmps (t, a) => tmps.setIfInBounds t a) tmps).getD t undef) (look (roundEnv ts ps env0) t)) ∧
    (∀ t, (look (roundEnv ts ps env0) t).lt k) ∧ ((ts.zip vs).foldl (fun tmps (t, a) => tmps.setIfInBounds t a) tmps).size = tmps.size
  | [], [], [], tmps, env0, _, _, _, h1, h2, _ => ⟨h1, h2, rfl⟩
  | t :: ts, v :: vs, p :: ps, tmps, env0, e1, e2, hlt, h1, h2, h3 => by
    have h0 := h3 0 v p rfl rfl
    have := round_slots (G := G) (w := w) (k := k) ts vs ps (tmps.setIfInBounds t v) ((t, p) :: env0) (by simpa using e1) (by simpa using e2) (fun t' ht' => by simpa using hlt t' (List.mem_cons_of_mem _ ht'))
      (fun t' => ?_) (fun t' => ?_) (fun j v' p' hv hp => h3 (j + 1) v' p' (by simpa using hv) (by simpa using hp))
    · simpa [roundEnv] using this
    · rw [look_cons]
      by_cases e : t' = t
      · subst e
        have hl := hlt t' List.mem_cons_self
        rw [if_pos rfl]
        refine .inr ?_
        have : (tmps.setIfInBounds t' v).getD t' undef = v := by simp [Array.getD_eq_getD_getElem?, hl]
        rw [this]; exact h0.1
      · rw [if_neg e]
        have : (tmps.setIfInBounds t v).getD t' undef = tmps.getD t' undef := by
          simp only [Array.getD_eq_getD_getElem?]; rw [Array.getElem?_setIfInBounds_ne (Ne.symm e)]
        rw [this]; exact h1 t'
    · rw [look_cons]
      split
      · exact h0.2
      · exact h2 t'
  | [], _, _ :: _, _, _, h, _, _, _, _, _ => by simp at h
  | _ :: _, _, [], _, _, h, _, _, _, _, _ => by simp at h
  | _, [], _ :: _, _, _, _, h, _, _, _, _ => by simp at h
  | _, _ :: _, [], _, _, _, h, _, _, _, _ => by simp at h

section
variable {P : Program} {n : Nat}

/-- A round, out of the walks of the assignment and of the body. -/
theorem yield_of {i : Nat} {rec : Loop} {env0 : Env} {σ : Sto} {ps : List PV} {R : Bool → Sto → Prop} (hσ : σ[i]? = some (.loop .ready none rec env0)) (hn : rec.tmps.size = n) (hl : rec.params.toList.length = ps.length)
    (hpar : ∀ t ∈ rec.params.toList, t < n) (hS : ∀ p ∈ ps, p.isS = true)
    (h : ∀ l, Sat P (some l) n σ.length rec.assign (roundEnv rec.params.toList ps env0) σ fun e env' σ' => e = .normal ∧ σ' = σ ∧
      Sat P (some l) n σ.length rec.body env' (σ.set i (.loop .busy none rec env0)) (rndPost i rec env0 R)) : SatYield P i ps σ R := by
  intro F G w vs hvs hs
  obtain ⟨hK, hb, hr⟩ := hs.sto i _ hσ
  subst hn
  have hy := run_yield (P := P) (args := vs) hb (by rw [hvs]; simpa using hl.symm)
  obtain ⟨s1, s2, s3⟩ := round_slots (G := G) (w := w) (k := σ.length) rec.params.toList vs.toList ps rec.tmps env0 hl (by simpa using hvs) hpar hr (hs.stolt i _ hσ) (fun j v p hv hp => by
    have h1 := hs.rep j
    have h2 := hs.envlt j
    rw [look_argFrom, if_pos (Nat.zero_le _), Nat.sub_zero, hp] at h1 h2
    simp only [Option.getD_some] at h1 h2
    have : vs.getD j undef = v := by
      rw [Array.getElem?_toList] at hv
      simp [Array.getD_eq_getD_getElem?, hv]
    rw [this] at h1
    exact ⟨h1.toS (hS p (List.mem_of_getElem? hp)), h2⟩)
  have e0 : (rec.params.zip vs).foldl (fun tmps (t, a) => tmps.setIfInBounds t a) rec.tmps = (rec.params.toList.zip vs.toList).foldl (fun tmps (t, a) => tmps.setIfInBounds t a) rec.tmps := by
    rw [← Array.foldl_toList, Array.toList_zip]
  refine ⟨_, _, _, _, hy, roundIn_of_wpIn trivial ?_⟩
  simp only [e0]
  have hs0 := hs.frame s1 s2
  rw [s3] at hs0
  refine wpIn_mono ((h (G.bs i)).go F G _ w hs0) fun e a1 w1 q => ?_
  obtain ⟨G1, env1, σ1, ⟨rfl, rfl, hbody⟩, hs1, hv1⟩ := q
  have hb1 := hs1.sto i _ hσ
  have hbs1 : G1.bs i = G.bs i := hv1.bs i (List.getElem?_eq_some_iff.1 hσ).1
  simp only [EntOK, hbs1] at hb1
  have hbr := run_beginRound (P := P) hb1.2.1 rfl
  obtain ⟨hs2, hv2⟩ := hs1.setLoop hσ .busy none
  rw [hbs1] at hs2 hv2
  refine ⟨_, hbr, ?_⟩
  have hlen : (σ1.set i (.loop .busy none rec env0)).length = σ1.length := List.length_set ..
  refine wpIn_mono (hbody.go F G1 _ _ hs2) fun e a2 w2 q => ?_
  obtain ⟨G2, env2, σ2, ⟨hσ2, hR⟩, hs3, hv3⟩ := q
  have hb2 := hs3.sto i _ hσ2
  have hbs2 : G2.bs i = G.bs i := (hv3.bs i (List.getElem?_eq_some_iff.1 hσ).1).trans hbs1
  simp only [EntOK, hbs2] at hb2
  have fin : ∀ (jump : Option Code) (st : LoopState), (if jump.isNone then LoopState.ready else .done) = st → R jump.isNone (σ2.set i (.loop st jump rec env0)) →
      ∃ v w', (Instr.endRound (G.bs i) jump).run P w2 = .ok v w' ∧ ∃ b σ' G', Ending.returned v = .returned (.bool b) ∧ R b σ' ∧ Sim 1 σ1.length F G' [(0, .bool b)] σ' ⟨#[.bool b], []⟩ w' ∧ Evol σ1.length F G w G' w' := by
    intro jump st hst hR
    have he := run_endRound (P := P) jump hb2.2.1
    obtain ⟨hs4, hv4⟩ := hs3.setLoop hσ2 st jump
    rw [hbs2] at hs4 hv4
    rw [hst] at he
    refine ⟨_, _, he, jump.isNone, _, G2, rfl, hR, ?_, ((hv1.trans hv2).trans hv3).trans hv4⟩
    have hf := hs4.frame (tmps := #[.bool jump.isNone]) (env' := [(0, .bool jump.isNone)]) (fun t => ?_) (fun t => ?_)
    · exact ⟨hf.size, hf.rep, hf.envlt, hf.sto, hf.stolt, hf.kfree, hf.inj, hf.uniq, hf.fr, hf.frlt, hf.marks, hf.markF, hs4.floor⟩
    · rw [look_cons]
      by_cases e : t = 0
      · subst e; rw [if_pos rfl]; exact .inr (.pl (.bool _))
      · rw [if_neg e]; exact .inl rfl
    · rw [look_cons]; split <;> trivial
  cases e with
  | normal => exact fin none .ready rfl hR
  | ret => exact fin (some .ret) .done rfl hR
  | exit id => exact fin (some (.exit id)) .done rfl hR
  | goto t => exact fin (some (.goto t)) .done rfl hR
  | panic c => exact hR.elim
  | outgrown => exact hR.elim

end
end Go.Proofs.Ytflgoabdgibphaa.Pv
