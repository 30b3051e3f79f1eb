/- A function's triple out of its body's; a call by its triple. -/
import Derived.Test.YtflgoabdgibphaaPvM
namespace Go.Proofs.Ytflgoabdgibphaa.Pv
open Go
set_option linter.unusedVariables false
set_option linter.unusedSimpArgs false

theorem lt_mono {k k' : Nat} (hk : k ≤ k') {p : PV} (h : p.lt k) : p.lt k' := by
  have key : ∀ p : PV, p.lt k → p.lt k' := by
    intro p
    refine PV.rec (motive_1 := fun p => p.lt k → p.lt k') (motive_2 := fun l => ltAll k l → ltAll k' l) ?_ ?_ ?_ ?_ ?_ ?_ ?_ ?_ ?_ ?_ ?_ ?_ ?_ ?_ ?_ ?_ ?_ ?_ ?_ ?_ ?_ p <;>
      first
        | (intros; trivial)
        | (intro _ ih h; exact ih h)
        | (intro i off h; simp only [PV.lt] at *; omega)
        | (intro i h; simp only [PV.lt] at *; omega)
        | (intro i off sz len cap h; simp only [PV.lt] at *; omega)
        | (intro _ _ _ ih1 ih2 h; exact ⟨ih1 h.1, ih2 h.2⟩)
        | (intro _ _ ih1 ih2 h; exact ⟨ih1 h.1, ih2 h.2⟩)
  exact key p h

theorem ownB_kind {G : Gh} {w : World} {v : Value} {p : PV} {b : Nat} (hr : RepO G w v p) (hb : ownB v p = some b) : G.K b = .own ∨ ∃ q, G.K b = .imm q := by
  cases hr with
  | dead => rw [ownB_dead] at hb; cases hb
  | sh hr => rw [ownB_sh hr] at hb; cases hb
  | ow a cap sz es hr ho =>
    cases a with
    | none => simp [ownB] at hb
    | some ad =>
      simp only [ownB] at hb
      split at hb
      · rename_i hlt
        obtain ⟨ad', e, _, h3, _⟩ := ho hlt
        cases e; cases hb; exact .inr ⟨_, h3⟩
      · cases hb
  | ex0 a sz => cases a <;> simp [ownB] at hb
  | ex b' cap sz es vs hK hc h0 hsp hsz hv hr => simp only [ownB, h0, if_true] at hb; cases hb; exact .inl hK

section
variable {n m : Nat} {F : Nat → Prop} {G : Gh} {env : Env} {σ : Sto} {a : Act} {w : World}

theorem own_kind (h : Sim n m F G env σ a w) {l : Loc} {b : Nat} (hl : ownAt G env σ a.tmps w l = some b) : G.K b = .own ∨ ∃ q, G.K b = .imm q := by
  cases l with
  | slot t j =>
    simp only [ownAt] at hl
    have hr := h.rep t
    revert hl hr
    generalize a.tmps.getD t undef = v
    generalize look env t = p
    intro hl hr
    cases hr with
    | one hr =>
      unfold ownSlot at hl
      split at hl
      · cases hr with | sh hr => exact hr.notup.elim
      · split at hl
        · exact ownB_kind hr hl
        · cases hl
    | tup vs ps hl' hr =>
      simp only [ownSlot] at hl
      split at hl
      · rename_i v' p' hv hp; exact ownB_kind (hr j _ _ hv hp) hl
      · cases hl
  | cell i j =>
    simp only [ownAt] at hl
    split at hl
    · rename_i cs hi
      split at hl
      · rename_i c v hc hv
        obtain ⟨_, _, h3⟩ := h.sto i _ hi
        obtain ⟨v', h4, h5⟩ := h3 j c hc
        rw [hv] at h4; cases h4
        exact ownB_kind h5 hl
      · cases hl
    · cases hl

theorem mark_kind (h : Sim n m F G env σ a w) : ∀ d ∈ a.defers, ∃ b, d = { target := .collected b, args := #[] } ∧ G.K b = .keep ∧ b < w.heap.size := by
  have hm := h.marks
  revert hm
  generalize a.defers = l
  intro hm d hd
  induction l with
  | nil => cases hd
  | cons d' r ih =>
    obtain ⟨⟨b', e1, e2, e3, _⟩, hm'⟩ := hm
    cases hd with
    | head => exact ⟨b', e1, e2, (Array.getElem?_eq_some_iff.1 e3).1⟩
    | tail _ hd => exact ih hm' hd

/-- A mark is taken off. -/
theorem Sim.popMark {tmps : Array Value} {d : Deferred} {ds : List Deferred} (h : Sim n m F G env σ ⟨tmps, d :: ds⟩ w) :
    ∃ b, d = { target := .collected b, args := #[] } ∧ w.heap[b]? = some (.deferred (some [])) ∧ Sim n m F G env σ ⟨tmps, ds⟩ (w.putObj b (.deferred none)) ∧ Evol m F G w G (w.putObj b (.deferred none)) := by
  obtain ⟨⟨b, rfl, hK, hb, hne⟩, hm⟩ := h.marks
  have hnF := h.markF _ List.mem_cons_self b rfl
  have hoth : ∀ x, x ≠ b → (w.putObj b (.deferred none)).heap[x]? = w.heap[x]? := fun x hx => World.putObj_heap_other hx
  have hle : ImmLe G.K w G.K (w.putObj b (.deferred none)) := fun x p hx => ⟨p, Nat.le_refl _, hx, fun j _ => cell_eq (hoth x fun e => by rw [e, hK] at hx; cases hx)⟩
  have h0 : Sim n m F G env σ ⟨tmps, []⟩ w := ⟨h.size, h.rep, h.envlt, h.sto, h.stolt, h.kfree, h.inj, h.uniq, h.fr, h.frlt, trivial, fun d hd => (by cases hd), h.floor⟩
  have key : ∀ l, ownAt G env σ tmps (w.putObj b (.deferred none)) l = ownAt G env σ tmps w l := by
    intro l
    cases l with
    | slot t j => rfl
    | cell i j =>
      simp only [ownAt]
      cases hi : σ[i]? with
      | none => rfl
      | some e => cases e with
        | cells cs =>
          have hbb : (w.putObj b (.deferred none)).heap[(G.bs i).b]? = w.heap[(G.bs i).b]? := hoth (G.bs i) (fun e => by have h1 := (h.sto i _ hi).1; rw [e, hK] at h1; cases h1)
          simp only [cell_eq hbb]
        | _ => rfl
  have hown : ∀ l x, ownAt G env σ tmps w l = some x → (w.putObj b (.deferred none)).heap[x]? = w.heap[x]? := fun l x hl => hoth x fun e => by
    have := own_kind h0 hl
    rw [e, hK] at this
    rcases this with h | ⟨q, h⟩ <;> cases h
  refine ⟨b, rfl, hb, ⟨h.size, fun t => (h.rep t).mono hle (fun _ _ => rfl) (h.envlt t) fun j x hx => ⟨hown (.slot t j) x hx, rfl⟩, h.envlt, fun i e hi => ?_, h.stolt, fun x hx => by simpa using h.kfree x hx, h.inj, fun l1 l2 x h1 h2 => ?_, fun l x hl => ?_, fun x hx => by simpa using h.frlt x hx, ?_, fun d hd x hx => h.markF d (List.mem_cons_of_mem _ hd) x hx, h.floor⟩, ?_⟩
  · have h1 := h.sto i e hi
    cases e with
    | cells cs =>
      obtain ⟨h2, h3, h4⟩ := h1
      have hbb : (w.putObj b (.deferred none)).heap[(G.bs i).b]? = w.heap[(G.bs i).b]? := hoth _ fun e => by rw [e, hK] at h2; cases h2
      refine ⟨h2, h3.mono hbb, fun j c hc => ?_⟩
      obtain ⟨v, hv, hr⟩ := h4 j c hc
      refine ⟨v, (cell_eq hbb).trans hv, hr.mono (n := σ.length) hle (fun _ _ => rfl) ?_ fun x hx => ⟨hown (.cell i j) x (ownAt_cell (env := env) (a := ⟨tmps, []⟩) hi hc hv hx), rfl⟩⟩
      have := h.stolt i _ hi
      simp only [Ent.lt] at this
      exact ltAll_iff.1 this c (List.mem_of_getElem? hc)
    | gone => trivial
    | loop x y z u =>
      obtain ⟨h2, h3, h4⟩ := h1
      exact ⟨h2, (hoth _ fun e => by rw [e, hK] at h2; cases h2).trans h3, fun t => (h4 t).imp_right fun hr => hr.mono (n := σ.length) hle (fun _ _ => rfl) (h.stolt i _ hi t)⟩
  · rw [key] at h1 h2; exact h.uniq l1 l2 x h1 h2
  · rw [key] at hl; exact h.fr l x hl
  · refine hm.mono fun d hd x hx => ⟨hoth x fun e => ?_, rfl⟩
    subst e
    obtain ⟨x', e1, _, _⟩ := mark_kind h d (List.mem_cons_of_mem _ hd)
    subst e1
    cases hx
    exact hne _ hd rfl
  · exact ⟨rfl, rfl, rfl, by simp, fun x hx => ⟨hoth x fun e => hnF (e ▸ hx), rfl⟩, hle, fun _ _ => rfl⟩

end

theorem results_run {P : Program} {fn : Func} {tmps : Array Value} {w : World} {vs : List Value} (h : (fn.results.toList.mapM (resRun tmps)).run P w = .ok vs w) :
    (results fn tmps).run P w = .ok (if h : vs.toArray.size = 1 then vs.toArray[0] else .tuple vs.toArray) w := by
  have e : results fn tmps = (do let vs ← fn.results.mapM (resRun tmps); pure (if h : vs.size = 1 then vs[0] else .tuple vs)) := by
    unfold results
    congr 1
  rw [e, Array.mapM_eq_mapM_toList]
  simp [h]

/-- Is a function one that may be called? -/
def Callable (P : Program) (f : FuncId) : Prop := ∃ fn, P.funcs[f]? = some fn ∧ (fn.name == "runtime.NumGoroutine") = false ∧ fn.body.isNone = false

theorem sat_fn {P : Program} {tt : TT} (ht : TabOK P tt) {f : FuncId} {fn : Func} {c : Code} {ps : List PV} {σ : Sto} {R : PV → Sto → Prop} (hf : P.funcs[f]? = some fn) (hb : fn.body = some c)
    (hnt : ps.length ≤ fn.ntmps) (hnd : (resSlots fn.results.toList).Nodup) (h : StoOK σ → Sat P none fn.ntmps σ.length c (argEnv ps) σ (fnPost tt fn σ.length R)) : SatCall P f ps σ R := by
  intro F G w vs hl hs
  refine callsIn_of_wp_marks hf hb trivial ?_
  have hs0 : Sim fn.ntmps σ.length F G (argEnv ps) σ ⟨vs ++ Array.replicate (fn.ntmps - vs.size) undef, []⟩ w := by
    have hget : ∀ t, (vs ++ Array.replicate (fn.ntmps - vs.size) undef).getD t undef = vs.getD t undef := by
      intro t
      by_cases h1 : t < vs.size
      · simp [h1, Array.getElem?_append_left]
      · simp only [Array.getD_eq_getD_getElem?]
        rw [Array.getElem?_append_right (by omega)]
        have : vs[t]? = none := Array.getElem?_eq_none (by omega)
        rw [this]
        by_cases h2 : t - vs.size < fn.ntmps - vs.size
        · simp [h2]
        · simp [Array.getElem?_eq_none, h2]
    have key : ∀ l, ownAt G (argEnv ps) σ (vs ++ Array.replicate (fn.ntmps - vs.size) undef) w l = ownAt G (argEnv ps) σ vs w l := by
      intro l
      cases l with
      | slot t j => simp only [ownAt, hget]
      | cell i j => rfl
    exact ⟨by simp; omega, fun t => by rw [hget]; exact hs.rep t, hs.envlt, hs.sto, hs.stolt, hs.kfree, hs.inj, fun l1 l2 b h1 h2 => by rw [key] at h1 h2; exact hs.uniq l1 l2 b h1 h2,
      fun l b hl => by rw [key] at hl; exact hs.fr l b hl, hs.frlt, trivial, fun d hd => (by cases hd), hs.floor⟩
  refine wpIn_mono ((h hs.stolt).go F G _ w hs0) fun e a' w' q => ?_
  obtain ⟨G', env', σ', ⟨he, rs, τ, ex, hres, htup, hσ, hmst, hlt, hR⟩, hs', hv⟩ := q
  obtain ⟨hmk, hst⟩ : σ.length ≤ τ.length ∧ StoOK τ := by
    rcases hmst with e | h
    · subst e; rw [List.append_nil] at hσ; subst hσ; exact ⟨hs'.floor, hs'.stolt⟩
    · exact h
  have htake : σ'.take τ.length = τ := by rw [hσ]; simp
  have hkl : τ.length ≤ σ'.length := by rw [hσ]; simp
  have leaves : ∀ (ds : List Deferred) (w1 : World), Sim fn.ntmps σ.length F G' env' σ' ⟨a'.tmps, ds⟩ w1 → Evol σ.length F G w G' w1 →
      LeavesInM (Wd none) 0 P fn a'.tmps (fun e w' => ∃ v r σ' G', e = .returned v ∧ R r σ' ∧ Sim 1 σ.length F G' [(0, r)] σ' ⟨#[v], []⟩ w' ∧ Evol σ.length F G w G' w') ds .returning w1 := by
    intro ds
    induction ds with
    | nil =>
      intro w1 hs1 hv1
      obtain ⟨vs', k1, k2, k3, k4⟩ := res_ok (P := P) ht hs1 _ _ hres htup hnd
      refine ⟨_, results_run k1, _, resOf rs, τ, G', rfl, hR, ?_, hv1⟩
      have := hs1.leave hnd htup k2 k4 hmk hkl hlt (fun i e hi hik => hst i e (by rw [← htake, List.getElem?_take, if_pos hik]; exact hi)) rfl
      rw [htake] at this; exact this
    | cons d ds ih =>
      intro w1 hs1 hv1
      obtain ⟨b, rfl, hb1, hs2, hv2⟩ := hs1.popMark
      exact ⟨by simp, .inl ⟨b, _, rfl, run_takeDeferred hb1, ih _ hs2 (hv1.trans hv2)⟩⟩
  rcases he with rfl | rfl
  · exact leaves a'.defers w' hs' hv
  · exact leaves a'.defers w' hs' hv

section
variable {n m : Nat} {F : Nat → Prop} {G : Gh} {env : Env} {σ : Sto} {a : Act} {w : World}

/-- What a call may not touch: the frame's, what the caller's slots have for themselves, its marks. -/
def callF (F : Nat → Prop) (G : Gh) (env : Env) (σ : Sto) (a : Act) (w : World) : Nat → Prop := fun b =>
  F b ∨ (∃ t j, ownAt G env σ a.tmps w (.slot t j) = some b) ∨ ∃ d ∈ a.defers, d.target = .collected b

theorem Sim.callee (h : Sim n m F G env σ a w) {ps : List PV} {vs : Array Value} (hl : vs.size = ps.length)
    (hr : ∀ (j : Nat) v p, vs[j]? = some v → ps[j]? = some p → RepO G w v p ∧ ownB v p = none ∧ p.lt σ.length ∧ p.isTup = false) :
    Sim vs.size σ.length (callF F G env σ a w) G (argEnv ps) σ ⟨vs, []⟩ w := by
  have hslot : ∀ t j b, ownAt G (argEnv ps) σ vs w (.slot t j) ≠ some b := by
    intro t j b hb
    simp only [ownAt, look_argFrom, Nat.zero_le, if_true, Nat.sub_zero] at hb
    cases hp : ps[t]? with
    | none => rw [hp] at hb; simp only [Option.getD_none] at hb; rw [ownSlot_dead] at hb; cases hb
    | some p =>
      rw [hp] at hb
      have ht : t < vs.size := by rw [hl]; exact (List.getElem?_eq_some_iff.1 hp).1
      obtain ⟨h1, h2, _, h4⟩ := hr t vs[t] p (by simp [ht]) hp
      have e : vs.getD t undef = vs[t] := by simp [ht]
      rw [e] at hb
      simp only [Option.getD_some] at hb
      unfold ownSlot at hb
      split at hb
      · cases h4
      · split at hb
        · rw [h2] at hb; cases hb
        · cases hb
  refine ⟨rfl, fun t => ?_, fun t => ?_, h.sto, h.stolt, h.kfree, fun i e hi hc hF => ?_, fun l1 l2 b h1 h2 => ?_, fun l b hl' hF => ?_, fun b hF => ?_, trivial, fun d hd => (by cases hd), Nat.le_refl _⟩
  · rw [look_argFrom, if_pos (Nat.zero_le _), Nat.sub_zero]
    cases hp : ps[t]? with
    | none => exact .one (.dead _)
    | some p =>
      have ht : t < vs.size := by rw [hl]; exact (List.getElem?_eq_some_iff.1 hp).1
      have e : vs.getD t undef = vs[t] := by simp [ht]
      rw [e]
      exact .one (hr t vs[t] p (by simp [ht]) hp).1
  · rw [look_argFrom, if_pos (Nat.zero_le _), Nat.sub_zero]
    cases hp : ps[t]? with
    | none => trivial
    | some p =>
      have ht : t < vs.size := by rw [hl]; exact (List.getElem?_eq_some_iff.1 hp).1
      exact (hr t vs[t] p (by simp [ht]) hp).2.2.1
  · have hK : ∃ j, G.K (G.bs i) = .box j := by
      have := h.sto i e hi
      rcases hc with ⟨c, rfl⟩ | ⟨x, y, z, u, rfl⟩
      · exact ⟨i, this.1⟩
      · exact ⟨i, this.1⟩
    obtain ⟨j, hK⟩ := hK
    rcases hF with hF | ⟨t, j', hF⟩ | ⟨d, hd, hF⟩
    · exact h.inj i e hi hc hF
    · have := own_kind h hF
      rw [hK] at this
      rcases this with h | ⟨q, h⟩ <;> cases h
    · obtain ⟨b, rfl, h2, _⟩ := mark_kind h d hd
      cases hF
      rw [hK] at h2; cases h2
  · cases l1 with
    | slot t j => exact absurd h1 (hslot t j b)
    | cell i j => cases l2 with
      | slot t j => exact absurd h2 (hslot t j b)
      | cell i' j' => exact h.uniq (.cell i j) (.cell i' j') b h1 h2
  · cases l with
    | slot t j => exact absurd hl' (hslot t j b)
    | cell i j =>
      rcases hF with hF | ⟨t, j', hF⟩ | ⟨d, hd, hF⟩
      · exact h.fr (.cell i j) b hl' hF
      · have := h.uniq (.cell i j) (.slot t j') b hl' hF; cases this
      · obtain ⟨b', rfl, h2, _⟩ := mark_kind h d hd
        cases hF
        have := own_kind h (l := .cell i j) hl'
        rw [h2] at this
        rcases this with h | ⟨q, h⟩ <;> cases h
  · rcases hF with hF | ⟨t, j, hF⟩ | ⟨d, hd, hF⟩
    · exact h.frlt b hF
    · exact own_lt h hF
    · obtain ⟨b', rfl, _, h3⟩ := mark_kind h d hd
      cases hF; exact h3

/-- Back from a call, with a result for a slot (or none). -/
theorem Sim.back (h : Sim n m F G env σ a w) {r : PV} {v : Value} {σ' : Sto} {G' : Gh} {w' : World} (hr : Sim 1 σ.length (callF F G env σ a w) G' [(0, r)] σ' ⟨#[v], []⟩ w')
    (hv : Evol σ.length (callF F G env σ a w) G w G' w') :
    (∀ d, d < n → Sim n m F G' ((d, r) :: env) σ' (a.put (some d) v) w') ∧ Sim n m F G' env σ' a w' ∧ Evol m F G w G' w' := by
  have hlen : σ.length ≤ σ'.length := hr.floor
  have hown : ∀ t j b, ownAt G env σ a.tmps w (.slot t j) = some b → w'.heap[b]? = w.heap[b]? ∧ G'.K b = G.K b := fun t j b hb => hv.fr b (.inr (.inl ⟨t, j, hb⟩))
  have hcells : ∀ i j b, ownAt G' env σ' a.tmps w' (.cell i j) = some b → ¬ callF F G env σ a w b := fun i j b hb => hr.fr (.cell i j) b hb
  have base : Sim n m F G' env σ' a w' := by
    refine ⟨h.size, fun t => (h.rep t).mono hv.le hv.bs (h.envlt t) fun j b hb => hown t j b hb, fun t => lt_mono hlen (h.envlt t), hr.sto, hr.stolt, hr.kfree, fun i e hi hc hF => hr.inj i e hi hc (.inl hF), fun l1 l2 b h1 h2 => ?_, fun l b hl hF => ?_, fun b hb => Nat.lt_of_lt_of_le (h.frlt b hb) hv.size, h.marks.mono fun d hd b hb => hv.fr b (.inr (.inr ⟨d, hd, hb⟩)), h.markF, Nat.le_trans h.floor hlen⟩
    · cases l1 with
      | slot t1 j1 => cases l2 with
        | slot t2 j2 => exact h.uniq _ _ b h1 h2
        | cell i j => exact absurd (.inr (.inl ⟨t1, j1, h1⟩)) (hcells i j b h2)
      | cell i1 j1 => cases l2 with
        | slot t2 j2 => exact absurd (.inr (.inl ⟨t2, j2, h2⟩)) (hcells i1 j1 b h1)
        | cell i j => exact hr.uniq (.cell i1 j1) (.cell i j) b h1 h2
    · cases l with
      | slot t j => exact h.fr (.slot t j) b (show ownAt G env σ a.tmps w (.slot t j) = some b from hl) hF
      | cell i j => exact hcells i j b hl (.inl hF)
  have hro : ∀ j b, ownSlot v r j = some b → ownAt G' [(0, r)] σ' #[v] w' (.slot 0 j) = some b := fun j b hb => by simpa [ownAt, look_cons] using hb
  refine ⟨fun d hd => ?_, base, ⟨hv.os, hv.tape, hv.output, hv.size, fun b hb => hv.fr b (.inl hb), hv.imm, fun i hi => hv.bs i (Nat.lt_of_lt_of_le hi h.floor)⟩⟩
  have hrep := hr.rep 0
  have hlt := hr.envlt 0
  simp only [look_cons, if_true] at hrep hlt
  refine base.set hd (v := v) (by simpa using hrep) hlt (fun j b hb => ?_) (fun j1 j2 b h1 h2 => ?_)
  · have h0 := hr.fr _ b (hro j b hb)
    refine ⟨fun hF => h0 (.inl hF), fun l hl => ?_⟩
    cases l with
    | slot t j' => exact absurd (.inr (.inl ⟨t, j', hl⟩)) h0
    | cell i j' => have := hr.uniq (.slot 0 j) (.cell i j') b (hro j b hb) hl; cases this
  · have := hr.uniq _ _ b (hro j1 b h1) (hro j2 b h2); cases this; rfl

end

/-- An argument, as it is handed on. -/
def passP (tt : TT) (env : Env) (ty : Nat) : Operand → PV
  | .const (.slice none 0 0) => match eti tt ty with
    | some i => .sl .ow i.size []
    | none => .dead
  | x => opv tt env ty x

def passL (tt : TT) (env : Env) : List Operand → List TypeId → List PV
  | x :: xs, t :: ts => passP tt env t x :: passL tt env xs ts
  | _, _ => []

section
variable {P : Program} {l : Option Nat} {tt : TT} {n m : Nat} {all : Array Oper} {rest : List Oper} {env : Env} {σ : Sto} {Q : Post} {d : Nat} {ty : TypeId} {pos : String} {after : Array Edge}

theorem pass_ok {F : Nat → Prop} {G : Gh} {a : Act} {w : World} (h : Sim n m F G env σ a w) (ty : Nat) (x : Operand) (hd : (passP tt env ty x).isTup = false) :
    RepO G w (a.eval x) (passP tt env ty x) ∧ ownB (a.eval x) (passP tt env ty x) = none ∧ (passP tt env ty x).lt σ.length ∧ (passP tt env ty x).isTup = false := by
  have gen : ∀ x, (opv tt env ty x).isTup = false → RepO G w (a.eval x) (opv tt env ty x) ∧ ownB (a.eval x) (opv tt env ty x) = none ∧ (opv tt env ty x).lt σ.length ∧ (opv tt env ty x).isTup = false := by
    intro x hd
    have hx := opv_ok h tt ty x
    have hl := opv_lt h tt ty x
    rcases hx with e | e | ⟨vs, ps, e1, e2, _⟩
    · rw [e] at hl ⊢; exact ⟨.dead _, ownB_dead _, hl, rfl⟩
    · exact ⟨.sh e, ownB_sh e, hl, hd⟩
    · rw [e2] at hd; cases hd
  unfold passP at hd ⊢
  split at hd
  · split at hd
    · rename_i i he; exact ⟨.ow none 0 i.size [] (.sl0 none 0 _) (fun h => by simp at h), rfl, trivial, rfl⟩
    · rename_i he; exact ⟨.dead _, ownB_dead _, trivial, rfl⟩
  · exact gen x hd

theorem pass_all {F : Nat → Prop} {G : Gh} {a : Act} {w : World} (h : Sim n m F G env σ a w) : ∀ (xs : List Operand) (ts : List TypeId), xs.length ≤ ts.length → ((passL tt env xs ts).all fun p => !p.isTup) = true →
    xs.length = (passL tt env xs ts).length ∧ ∀ (j : Nat) v p, (xs.map a.eval)[j]? = some v → (passL tt env xs ts)[j]? = some p → RepO G w v p ∧ ownB v p = none ∧ p.lt σ.length ∧ p.isTup = false
  | [], ts, _, _ => ⟨rfl, fun j v p h => by simp at h⟩
  | x :: xs, [], hl, _ => by simp at hl
  | x :: xs, t :: ts, hl, ha => by
    simp only [passL, List.all_cons, Bool.and_eq_true] at ha
    obtain ⟨h1, h2⟩ := pass_all h xs ts (by simpa using hl) ha.2
    refine ⟨by simp [passL, h1], fun j v p hv hp => ?_⟩
    cases j with
    | zero => simp [passL] at hv hp; subst hv; subst hp; exact pass_ok h t x (by simpa using ha.1)
    | succ j => simp [passL] at hv hp; exact h2 j v p (by simpa using hv) hp

/-- A call of a function, or of a function value. -/
theorem op_call {fo : Operand} {args : Array Operand} {ats : Array TypeId} {f : FuncId} {as bs ps : List PV} {R : PV → Sto → Prop} (hcal : Callable P f) (hfo : opv tt env 0 fo = .fn (.func f) as bs)
    (hps : ps = as ++ (passL tt env args.toList ats.toList ++ bs)) (hlen : args.size ≤ ats.size) (htup : ps.all (fun p => !p.isTup) = true)
    (hc : SatCall P f ps σ R) (hd : d < n) (h : ∀ r σ', R r σ' → SatOps P l n m all rest ((d, r) :: env) σ' Q) :
    SatOps P l n m all (⟨some d, .call ⟨.value fo, args, ats⟩, ty, pos, after, none⟩ :: rest) env σ Q := by
  refine ⟨fun F G a w hs => ?_⟩
  obtain ⟨fn, hf1, hf2, hf3⟩ := hcal
  have hfo' := opv_ok hs tt 0 fo
  have hfl := opv_lt hs tt 0 fo
  rw [hfo] at hfo' hfl
  obtain ⟨xs, ys, e1, e2, e3, e4, e5⟩ := (hfo'.toS rfl).fnv
  simp only [PV.lt] at hfl
  have htup' : ((passL tt env args.toList ats.toList).all fun p => !p.isTup) = true := by
    rw [hps] at htup; simp only [List.all_append, Bool.and_eq_true] at htup; exact htup.2.1
  obtain ⟨p1, p2⟩ := pass_all hs args.toList ats.toList (by simpa using hlen) htup'
  have hS : ∀ {v : Value} {p : PV}, RepS G w v p → p.lt σ.length → RepO G w v p ∧ ownB v p = none ∧ p.lt σ.length ∧ p.isTup = false := fun {v p} h hl => ⟨.sh h, ownB_sh h, hl, by
    cases p <;> first | rfl | exact h.notup.elim⟩
  have hrep : ∀ (j : Nat) v p, (xs ++ args.map a.eval ++ ys)[j]? = some v → ps[j]? = some p → RepO G w v p ∧ ownB v p = none ∧ p.lt σ.length ∧ p.isTup = false := by
    intro j v p hv hp
    have hv' : (xs.toList ++ (args.toList.map a.eval ++ ys.toList))[j]? = some v := by rw [← Array.getElem?_toList] at hv; simpa using hv
    rw [hps] at hp
    by_cases h1 : j < xs.size
    · rw [List.getElem?_append_left (by simpa using h1)] at hv'
      rw [List.getElem?_append_left (by omega)] at hp
      exact hS (e4 j v p (by simpa using hv') hp) (ltAll_iff.1 hfl.1 p (List.mem_of_getElem? hp))
    · rw [List.getElem?_append_right (by simp; omega)] at hv'
      rw [List.getElem?_append_right (by omega)] at hp
      simp only [Array.length_toList] at hv'
      rw [← e2] at hp
      by_cases h2 : j - xs.size < args.size
      · rw [List.getElem?_append_left (by simpa using h2)] at hv'
        rw [List.getElem?_append_left (by rw [← p1]; simpa using h2)] at hp
        exact p2 _ v p hv' hp
      · rw [List.getElem?_append_right (by simp; omega)] at hv'
        rw [List.getElem?_append_right (by rw [← p1]; simp; omega)] at hp
        rw [← p1] at hp
        simp only [List.length_map, Array.length_toList] at hv' hp
        exact hS (e5 _ v p (by simpa using hv') hp) (ltAll_iff.1 hfl.2 p (List.mem_of_getElem? hp))
  have hlen' : (xs ++ args.map a.eval ++ ys).size = ps.length := by
    rw [hps]; simp only [Array.size_append, Array.size_map, List.length_append, ← p1, e2, e3, Array.length_toList]; omega
  have hsim := hs.callee hlen' hrep
  have hrun : (execOp a.eval ⟨some d, .call ⟨.value fo, args, ats⟩, ty, pos, after, none⟩).run P w = .ok (.enter f (xs ++ args.map a.eval ++ ys)) w := by
    have n1 : ¬ fn.name = "runtime.NumGoroutine" := by simpa using hf2
    have n2 : ¬ fn.body = none := by intro h; simp [h] at hf3
    simp [execOp, resolve, e1, Deferred.ofValue, invoke, callFunc, hf1, n1, n2]
  refine list_run rfl ⟨fun _ _ => trivial, ?_⟩
  rw [show (Wd l).round = l from rfl, Oper.semAt_eq l _ _ (by simp), hrun]
  refine ⟨fun h => by simp [Wd, Fence.wide] at h, ?_⟩
  have := hc _ G w _ hlen' hsim
  refine CallsIn.mono (F := Wd none) this fun e w' hq => ?_
  obtain ⟨v, r, σ', G', rfl, hR, hs', hv⟩ := hq
  obtain ⟨b1, _, b3⟩ := hs.back hs' hv
  exact list_evol b3 rest _ _ ((h r σ' hR).go F G' _ w' (b1 d hd))

end
end Go.Proofs.Ytflgoabdgibphaa.Pv
