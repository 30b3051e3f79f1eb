/- The framework of plain values, part 3: what a program's words stand for, step by step. -/
import Derived.Test.YtflgoabdgibphaaPvM2
import Derived.Laws.Externs
import Derived.Lib.Overlaps
import Derived.ScopeJumps
section
/- A contract of the library that leaves the heap below as it is, as a contract over plain values. -/
namespace Go.Proofs.Ytflgoabdgibphaa.Pv
open Go
set_option linter.unusedVariables false
set_option linter.unusedSimpArgs false
section
variable {P : Program} {l : Option Nat} {tt : TT} {n m : Nat} {all : Array Oper} {rest : List Oper} {env : Env} {σ : Sto} {Q : Post} {d : Nat} {ty : TypeId} {pos : String} {after : Array Edge}
end
/-- What lies behind a store may be forgotten. -/
def DropOK (m : Nat) (env : Env) (σ ex : Sto) : Prop := ex = [] ∨ (m ≤ σ.length ∧ StoOK σ ∧ ∀ t, (look env t).lt σ.length)
theorem Sim.drop {n m : Nat} {F : Nat → Prop} {G : Gh} {env : Env} {σ ex : Sto} {a : Act} {w : World} (h : Sim n m F G env (σ ++ ex) a w) (hd : DropOK m env σ ex) : Sim n m F G env σ a w := by
  rcases hd with rfl | ⟨h1, h2, h3⟩
  · rw [List.append_nil] at h; exact h
  have hget : ∀ (i : Nat) e, σ[i]? = some e → (σ ++ ex)[i]? = some e := fun i e hi => by
    rw [List.getElem?_append_left (List.getElem?_eq_some_iff.1 hi).1]; exact hi
  have key : ∀ l b, ownAt G env σ a.tmps w l = some b → ownAt G env (σ ++ ex) a.tmps w l = some b := by
    intro l b hl
    cases l with
    | slot t j => exact hl
    | cell i j =>
      simp only [ownAt] at hl ⊢
      cases hi : σ[i]? with
      | none => rw [hi] at hl; cases hl
      | some e => rw [hi] at hl; rw [hget i e hi]; exact hl
  exact ⟨h.size, h.rep, h3, fun i e hi => h.sto i e (hget i e hi), h2, h.kfree, fun i e hi => h.inj i e (hget i e hi), fun l1 l2 b g1 g2 => h.uniq l1 l2 b (key _ _ g1) (key _ _ g2),
    fun l b hl => h.fr l b (key l b hl), h.frlt, h.marks, h.markF, h1⟩
section
variable {P : Program} {l : Option Nat} {n m : Nat} {env : Env} {σ : Sto} {Q : Post}
theorem sat_drop {c : Code} {ex : Sto} (hd : DropOK m env σ ex) (h : Sat P l n m c env σ Q) : Sat P l n m c env (σ ++ ex) Q := ⟨fun F G a w hs => h.go F G a w (hs.drop hd)⟩
/-- A loop whose rounds leave boxes behind that nobody holds. -/
theorem sat_loopD {α : Type} {c : Code} (E : α → Env) (S : α → Sto) (I : α → Prop) (μ : α → Nat) (x0 : α) (h0 : I x0) (hw : WkL (E x0) env) (hS : S x0 = σ)
    (hr : ∀ x, I x → Sat P l n m c (E x) (S x) (andThen (fun env' σ' => ∃ x', I x' ∧ μ x' < μ x ∧ WkL (E x') env' ∧ ∃ ex, σ' = S x' ++ ex ∧ DropOK m (E x') (S x') ex) Q)) : Sat P l n m (.loop c) env σ Q := by
  subst hS
  refine sat_env (E x0) hw (sat_loop (fun k e s => ∃ x, I x ∧ μ x = k ∧ (∀ t, Wk (look (E x) t) (look e t)) ∧ ∃ ex, s = S x ++ ex ∧ DropOK m (E x) (S x) ex) (μ x0) ⟨x0, h0, rfl, fun t => Wk.same _, [], (List.append_nil _).symm, .inl rfl⟩ ?_)
  rintro k e s ⟨x, hx, rfl, he, ex, rfl, hd⟩
  refine sat_weaken (E x) he (sat_drop hd ((hr x hx).mono fun e' env' σ' q => ?_))
  cases e' with
  | normal =>
    obtain ⟨x', h1, h2, h3, h4⟩ := q.go
    exact ⟨⟨μ x', h2, x', h1, rfl, h3.at, h4⟩⟩
  | _ => exact ⟨q.go⟩
end
theorem stoOK_push {σ : Sto} (h : StoOK σ) {e : Ent} (he : e.lt (σ.length + 1)) : StoOK (σ ++ [e]) := by
  intro i e' hi
  rw [List.length_append, List.length_singleton]
  by_cases hlt : i < σ.length
  · rw [List.getElem?_append_left hlt] at hi
    have h1 := h i e' hi
    cases e' with
    | cells cs => simp only [Ent.lt] at h1 ⊢; rw [ltAll_iff] at h1 ⊢; exact fun v hv => lt_mono (Nat.le_succ _) (h1 v hv)
    | gone => trivial
    | loop x y z u => exact fun t => lt_mono (Nat.le_succ _) (h1 t)
  · rw [List.getElem?_append_right (by omega)] at hi
    cases hj : i - σ.length with
    | zero => rw [hj] at hi; cases hi; exact he
    | succ k => rw [hj] at hi; simp at hi
theorem envL_lt : ∀ {env : Env} {k : Nat}, (∀ x ∈ env, x.2.lt k) → ∀ t, (look env t).lt k
  | [], _, _, _ => trivial
  | (u, p) :: r, k, h, t => by
    rw [look_cons]
    split
    · exact h (u, p) List.mem_cons_self
    · exact envL_lt (fun x hx => h x (List.mem_cons_of_mem _ hx)) t
end Go.Proofs.Ytflgoabdgibphaa.Pv
end
section
/- Regions that draw their order, the first operation taking over what a slot owns. -/
namespace Go.Proofs.Ytflgoabdgibphaa.Pv
open Go
set_option linter.unusedVariables false
set_option linter.unusedSimpArgs false
section
variable {P : Program} {l : Option Nat} {n m : Nat} {σ : Sto} {Q : Post}
/-- The first of the steps takes over what slot u owns. -/
structure StepM (P : Program) (l : Option Nat) (n m : Nat) (all : Array Oper) (env : Env) (σ : Sto) (u : Nat) (q : PV) (o : Oper) (p : PV) : Prop where
  go : ∀ (env0 : Env), look env0 u = look env u → ∀ F G a w, Sim n m F G env0 σ a w → ∀ (i : Nat) (K : Act → World → Prop) (Q' : Exit → Act → World → Prop), all[i]? = some o →
    (∀ a' w' G', Sim n m F G' ((o.dst.getD 1000000, p) :: (u, q) :: env0) σ a' w' → Evol m F G w G' w' → K a' w') → wpOpIn (Wd l) 0 P all Q' i K a w
end
section
variable {P : Program} {l : Option Nat} {tt : TT} {n m : Nat} {all : Array Oper} {env : Env} {σ : Sto} {d : Nat} {op : Op} {ty : TypeId} {pos : String} {after : Array Edge} {os : List Oper} {K : Env → Prop} {p : PV}
theorem Sim.setTup0 {F : Nat → Prop} {G : Gh} {a : Act} {w : World} (hs : Sim n m F G env σ a w) (hd : d < n) : Sim n m F G ((d, .tup []) :: env) σ (a.put (some d) undef) w :=
  hs.setN hd (.inr (.inr ⟨#[], [], rfl, rfl, rfl, fun j v c h => by simp at h⟩)) trivial
/-- Passed over: what hangs on it is passed over, too. -/
theorem stepC_no {j t : Nat} {want b : Bool} (hj : (all[j]?).bind (·.dst) = some t) (hb : look env t = .bool b) (hw : b = !want) (hd : Nat.ble (d + 1) n = true) : StepC P l n m all env σ ⟨some d, op, ty, pos, after, some (j, want)⟩ (.tup []) := by
  refine ⟨fun env0 hag F G a w hs i K Q' hi hK => ?_⟩
  have hb0 : look env0 t = .bool b := (hag t (by simp [readsOf, hj])).trans hb
  unfold wpOpIn
  simp only [hi]
  rw [if_neg (by simp [Region.wanted, yielded_of hs hj hb0, hw])]
  exact ⟨fun _ _ => trivial, hK _ _ G (hs.setTup0 (ltn hd)) (.refl _ _ _ _)⟩
theorem stepC_un {j t : Nat} {want : Bool} (hj : (all[j]?).bind (·.dst) = some t) (hb : look env t = .tup []) (hd : Nat.ble (d + 1) n = true) : StepC P l n m all env σ ⟨some d, op, ty, pos, after, some (j, want)⟩ (.tup []) := by
  refine ⟨fun env0 hag F G a w hs i K Q' hi hK => ?_⟩
  have hb0 : look env0 t = .tup [] := (hag t (by simp [readsOf, hj])).trans hb
  have hy : yielded all a.tmps j = none := by
    have hr := hs.rep t
    rw [hb0] at hr
    unfold yielded
    rw [hj]
    simp only [Option.bind_some]
    by_cases ht : t < a.tmps.size
    · have e : a.tmps.getD t undef = a.tmps[t] := by simp [ht]
      rw [e] at hr
      obtain ⟨vs, hv⟩ := rep_tup hr
      simp [ht, hv]
    · simp [Array.getElem?_eq_none (Nat.le_of_not_lt ht)]
  unfold wpOpIn
  simp only [hi]
  rw [if_neg (by simp [Region.wanted, hy])]
  exact ⟨fun _ _ => trivial, hK _ _ G (hs.setTup0 (ltn hd)) (.refl _ _ _ _)⟩
theorem dd_no2 {j t : Nat} {want b : Bool} (hj : (all[j]?).bind (·.dst) = some t) (hb : look env t = .bool b) (hw : b = !want) (hd : Nat.ble (d + 1) n = true) (h : DrawD P l n m all ((d, .tup []) :: env) σ os K) :
    DrawD P l n m all env σ (⟨some d, op, ty, pos, after, some (j, want)⟩ :: os) K := dd_cons (stepC_no hj hb hw hd) h
theorem dd_un {j t : Nat} {want : Bool} (hj : (all[j]?).bind (·.dst) = some t) (hb : look env t = .tup []) (hd : Nat.ble (d + 1) n = true) (h : DrawD P l n m all ((d, .tup []) :: env) σ os K) :
    DrawD P l n m all env σ (⟨some d, op, ty, pos, after, some (j, want)⟩ :: os) K := dd_cons (stepC_un hj hb hd) h
end
end Go.Proofs.Ytflgoabdgibphaa.Pv
end
section
/- Rows of which the capacity is known, in boxes: they are cut, copied into, grown; a box that turns no more is read as a row of values. -/
namespace Go.Proofs.Ytflgoabdgibphaa.Pv
open Go
set_option linter.unusedVariables false
set_option linter.unusedSimpArgs false
section
variable {n m : Nat} {F : Nat → Prop} {G : Gh} {env : Env} {σ : Sto} {a : Act} {w : World}
/-- A box may be forgotten. -/
theorem Sim.gone (h : Sim n m F G env σ a w) (k : Nat) : Sim n m F G env (σ.set k .gone) a w := by
  have hget : ∀ (i : Nat) e, (σ.set k .gone)[i]? = some e → (i = k ∧ e = .gone) ∨ σ[i]? = some e := by
    intro i e hi
    rw [List.getElem?_set] at hi
    split at hi
    · rename_i e'; subst e'
      split at hi
      · cases hi; exact .inl ⟨rfl, rfl⟩
      · cases hi
    · exact .inr hi
  have key : ∀ l b, ownAt G env (σ.set k .gone) a.tmps w l = some b → ownAt G env σ a.tmps w l = some b := by
    intro l b hl
    cases l with
    | slot t j => exact hl
    | cell i j =>
      simp only [ownAt] at hl ⊢
      cases hi : (σ.set k .gone)[i]? with
      | none => rw [hi] at hl; cases hl
      | some e =>
        rw [hi] at hl
        rcases hget i e hi with ⟨_, rfl⟩ | h'
        · cases hl
        · rw [h']; exact hl
  refine ⟨h.size, h.rep, fun t => by rw [List.length_set]; exact h.envlt t, fun i e hi => ?_, fun i e hi => ?_, h.kfree, fun i e hi hc => ?_, fun l1 l2 b g1 g2 => h.uniq l1 l2 b (key _ _ g1) (key _ _ g2), fun l b hl => h.fr l b (key _ _ hl), h.frlt, h.marks, h.markF, by rw [List.length_set]; exact h.floor⟩
  · rcases hget i e hi with ⟨_, rfl⟩ | h'
    · trivial
    · exact h.sto i e h'
  · rw [List.length_set]
    rcases hget i e hi with ⟨_, rfl⟩ | h'
    · trivial
    · exact h.stolt i e h'
  · rcases hget i e hi with ⟨_, rfl⟩ | h'
    · rcases hc with ⟨c, e⟩ | ⟨x, y, z, u, e⟩ <;> cases e
    · exact h.inj i e h' hc
end
/-- An environment, once box i turns no more (its first cells were cs). -/
def FrzL (i : Nat) (cs : List PV) : Env → Env → Prop
  | [], _ => True
  | (t, p) :: r, env => Frz i cs p (look env t) ∧ FrzL i cs r env
theorem FrzL.at {i : Nat} {cs : List PV} : ∀ {e env : Env}, FrzL i cs e env → ∀ t, Frz i cs (look e t) (look env t)
  | [], _, _, t => .inl rfl
  | (u, p) :: r, env, h, t => by
    rw [look_cons]
    split
    · rename_i e; subst e; exact h.1
    · exact FrzL.at h.2 t
def FrzC (i : Nat) (cs : List PV) : List PV → List PV → Prop
  | [], [] => True
  | p' :: r', p :: r => Frz i cs p' p ∧ FrzC i cs r' r
  | _, _ => False
theorem FrzC.get {i : Nat} {cs : List PV} : ∀ {ds' ds : List PV}, FrzC i cs ds' ds → ds'.length = ds.length ∧ ∀ (k : Nat) c', ds'[k]? = some c' → ∃ c, ds[k]? = some c ∧ Frz i cs c' c
  | [], [], _ => ⟨rfl, fun k c' h => by simp at h⟩
  | p' :: r', p :: r, h => by
    obtain ⟨h1, h2⟩ := FrzC.get h.2
    refine ⟨by simp [h1], fun k c' hc => ?_⟩
    cases k with
    | zero => simp at hc; subst hc; exact ⟨p, rfl, h.1⟩
    | succ k => simp at hc; simpa using h2 k c' hc
  | [], _ :: _, h => h.elim
  | _ :: _, [], h => h.elim
/-- The same of a store's end, entry for entry. -/
def FrzS (i : Nat) (cs : List PV) : Sto → Sto → Prop
  | [], [] => True
  | e' :: r', e :: r => (e' = e ∨ ∃ ds ds', e = .cells ds ∧ e' = .cells ds' ∧ FrzC i cs ds' ds) ∧ FrzS i cs r' r
  | _, _ => False
theorem FrzS.get {i : Nat} {cs : List PV} : ∀ {s' s : Sto}, FrzS i cs s' s → s'.length = s.length ∧ ∀ (k : Nat) e', s'[k]? = some e' → ∃ e, s[k]? = some e ∧ FrzE i cs e' e
  | [], [], _ => ⟨rfl, fun k c' h => by simp at h⟩
  | p' :: r', p :: r, h => by
    obtain ⟨h1, h2⟩ := FrzS.get h.2
    refine ⟨by simp [h1], fun k c' hc => ?_⟩
    cases k with
    | zero =>
      simp at hc; subst hc
      refine ⟨p, rfl, ?_⟩
      rcases h.1 with e | ⟨ds, ds', e1, e2, h3⟩
      · exact .inl e
      · exact .inr ⟨ds, ds', e1, e2, h3.get⟩
    | succ k => simp at hc; simpa using h2 k c' hc
  | [], _ :: _, h => h.elim
  | _ :: _, [], h => h.elim
theorem FrzS.refl {i : Nat} {cs : List PV} : ∀ s : Sto, FrzS i cs s s
  | [] => trivial
  | e :: r => ⟨.inl rfl, FrzS.refl r⟩
theorem FrzS.app {i : Nat} {cs : List PV} {s' s : Sto} (h : FrzS i cs s' s) : ∀ τ : Sto, FrzS i cs (τ ++ s') (τ ++ s)
  | [] => h
  | e :: r => ⟨.inl rfl, FrzS.app h r⟩
theorem frz_same {i : Nat} {cs : List PV} {p : PV} : Frz i cs p p := .inr (.inl rfl)
theorem frz_row {i sz cap : Nat} {es : List PV} (hsz : ∀ e ∈ es, e.cells.length = sz) : Frz i (flat es) (.sl .sh sz es) (.xsl i 0 sz es.length cap) :=
  .inr (.inr ⟨0, sz, es.length, cap, es, .inr rfl, rfl, rfl, hsz, by rw [flat_length hsz]; omega, fun j c h => by rw [Nat.zero_add]; exact h⟩)
section
variable {P : Program} {l : Option Nat} {tt : TT} {n m : Nat} {all : Array Oper} {rest : List Oper} {env : Env} {σ : Sto} {Q : Post} {d : Nat} {dd : Option Nat} {ty : TypeId} {pos : String} {after : Array Edge} {g : Option (Nat × Bool)}
theorem ops_gone {os : List Oper} (k : Nat) (h : SatOps P l n m all os env (σ.set k .gone) Q) : SatOps P l n m all os env σ Q := ⟨fun F G a w hs => h.go F G a w (hs.gone k)⟩
theorem ops_freeze {os : List Oper} {i : Nat} {cs rs : List PV} (E' : Env) (σ' : Sto) (hi : σ[i]? = some (.cells (cs ++ rs))) (hpl : ∀ c ∈ cs, c.pl = true) (he : FrzL i cs E' env) (hσ : FrzS i cs σ' (σ.set i .gone))
    (h : SatOps P l n m all os E' σ' Q) : SatOps P l n m all os env σ Q := by
  refine ⟨fun F G a w hs => ?_⟩
  obtain ⟨h1, h2⟩ := hσ.get
  have hlt := (List.getElem?_eq_some_iff.1 hi).1
  obtain ⟨k1, k2⟩ := hs.freeze (env' := E') (σ' := σ') hi hpl he.at (by rw [h1, List.length_set]) (by
      have h3 : i < σ'.length := by rw [h1, List.length_set]; exact hlt
      obtain ⟨e, e1, e2⟩ := h2 i σ'[i] (by simp [h3])
      rw [List.getElem?_set, if_pos rfl, if_pos hlt] at e1
      cases e1
      rw [List.getElem?_eq_getElem h3]
      rcases e2 with e2 | ⟨ds, _, e2, _⟩
      · rw [e2]
      · cases e2) (fun j e' hj hj' => by
      obtain ⟨e, e1, e2⟩ := h2 j e' hj'
      rw [List.getElem?_set, if_neg (Ne.symm hj)] at e1
      exact ⟨e, e1, e2⟩)
  exact list_evol k2 _ _ _ (h.go F _ a w k1)
/-- How many elements there is room for. -/
theorem lk_cap (ht : TabOK P tt) {t : TypeId} {x : Operand} {e : TI} {i off sz len cap : Nat} (he : eti tt t = some e) (hx : opv tt env t x = .xsl i off sz len cap) :
    LookAt P n m env σ ⟨dd, .call ⟨.builtin .cap, #[x], #[t]⟩, ty, pos, after, g⟩ (.int .i64 cap) := by
  refine ⟨fun F G a w hs => ?_⟩
  have hxo := opv_ok hs tt t x
  rw [hx] at hxo
  obtain ⟨ad, ev, _⟩ := (hxo.toS rfl).xslv
  obtain ⟨eT, hu, hT⟩ := eti_ok ht he
  exact ⟨.int .i64 cap, by simp [execOp, resolve, invoke, builtin, Builtin.cap_, underlying, hu, ev, goInt], .inr (.inl (.pl (.int _ _))), trivial⟩
theorem bounds_eq {F : Nat → Prop} {G : Gh} {a : Act} {w : World} (hs : Sim n m F G env σ a w) {isS : Bool} {len cap : Nat} {lo hi mx : Option Operand} {l h mm : Int} (hm1 : mx.isSome = true → hi.isSome = true) (hl : bndP tt env lo 0 = some l) (hh : bndP tt env hi len = some h) (hm : bndP tt env mx cap = some mm)
    (h0 : 0 ≤ l) (h1 : l ≤ h) (h2 : h ≤ mm) (h3 : mm ≤ cap) : (Instr.sliceBounds isS len cap (lo.map a.eval) (hi.map a.eval) (mx.map a.eval)).run P w = .ok (l.toNat, h.toNat, mm.toNat) w := by
  cases mx with
  | none =>
    simp only [bndP, Option.some.injEq] at hm
    have := bounds_run (P := P) (w := w) (isS := isS) hs hl hh h0 h1 (cap := cap) (by omega)
    rw [show mm.toNat = cap by omega]; exact this
  | some z =>
    cases hi with
    | none => simp at hm1
    | some y => exact bounds3_run hs hl (by simpa [bndP] using hh) (by simpa [bndP] using hm) h0 h1 h2 (by omega)
/-- A slice of such a row. -/
theorem lk_sliceX (ht : TabOK P tt) {t : TypeId} {x : Operand} {lo hi mx : Option Operand} {e : TI} {i off sz len cap : Nat} {l h mm : Int} (he : eti tt t = some e) (hx : opv tt env t x = .xsl i off sz len cap) (hsz : Nat.beq e.size sz = true)
    (hm1 : (mx.isSome && hi.isNone) = false) (hl : bndP tt env lo 0 = some l) (hh : bndP tt env hi len = some h) (hm : bndP tt env mx cap = some mm) (hc : 0 ≤ l ∧ l ≤ h ∧ h ≤ mm ∧ mm ≤ cap) :
    LookAt P n m env σ ⟨dd, .slice t x lo hi mx, ty, pos, after, g⟩ (.xsl i (off + l.toNat * sz) sz (h.toNat - l.toNat) (mm.toNat - l.toNat)) := by
  refine ⟨fun F G a w hs => ?_⟩
  have hsz := Nat.eq_of_beq_eq_true hsz
  have hxo := opv_ok hs tt t x
  have hxl := opv_lt hs tt t x
  rw [hx] at hxo hxl
  obtain ⟨ad, ex, c1, c3⟩ := (hxo.toS rfl).xslv
  obtain ⟨eT, hu, hT⟩ := eti_ok ht he
  obtain ⟨h1, h2, h3, h4⟩ := hc
  have hb := bounds_eq (P := P) hs (isS := true) (by intro h; cases mx <;> cases hi <;> simp_all) hl hh hm h1 h2 h3 h4
  have hz := hT.rsize w
  refine ⟨.slice (if mm.toNat = l.toNat then ad else ad.map (·.add (l.toNat * sz))) (h.toNat - l.toNat) (mm.toNat - l.toNat), ?_, .inr (.inl (.xsl _ _ _ _ _ _ (by omega) ?_)), ?_⟩
  · simp [execOp, ex, Instr.sliceAt, Instr.slice, underlying, hu, hb, hz, hsz]
  · by_cases h0 : mm.toNat - l.toNat = 0
    · exact .inl h0
    · obtain ⟨c3, c4⟩ := c3.resolve_left (by omega)
      exact .inr ⟨by rw [if_neg (by omega), c3]; simp [add_eq], c4⟩
  · simp only [PV.lt] at hxl ⊢; omega
end
end Go.Proofs.Ytflgoabdgibphaa.Pv
end
section
/- Rows of known capacity: copies, appends; elements of several cells, read and written. -/
namespace Go.Proofs.Ytflgoabdgibphaa.Pv
open Go
set_option linter.unusedVariables false
set_option linter.unusedSimpArgs false
/-- What may be copied out: k elements; the cells of the first q of them, as they are read. -/
inductive SrcQ (σ : Sto) (sz : Nat) : PV → Nat → Nat → List PV → Prop
  | sl (es : List PV) : SrcQ σ sz (.sl .sh sz es) es.length es.length (flat es)
  | row (i off k q cap : Nat) (cs : List PV) (hi : σ[i]? = some (.cells cs)) (hq : q ≤ k) (hle : off + q * sz ≤ cs.length) (hS : ((cs.drop off).take (q * sz)).all PV.isS = true) : SrcQ σ sz (.xsl i off sz k cap) k q ((cs.drop off).take (q * sz))
  | none (i off cap : Nat) : SrcQ σ sz (.xsl i off sz 0 cap) 0 0 []
abbrev SrcR (σ : Sto) (sz : Nat) (p : PV) (k : Nat) (ys : List PV) : Prop := SrcQ σ sz p k k ys
theorem SrcR.sl {σ : Sto} {sz : Nat} (es : List PV) : SrcR σ sz (.sl .sh sz es) es.length (flat es) := SrcQ.sl es
theorem SrcR.row {σ : Sto} {sz : Nat} (i off k cap : Nat) (cs : List PV) (hi : σ[i]? = some (.cells cs)) (hle : off + k * sz ≤ cs.length) (hS : ((cs.drop off).take (k * sz)).all PV.isS = true) : SrcR σ sz (.xsl i off sz k cap) k ((cs.drop off).take (k * sz)) := SrcQ.row i off k k cap cs hi (Nat.le_refl _) hle hS
theorem SrcR.none {σ : Sto} {sz : Nat} (i off cap : Nat) : SrcR σ sz (.xsl i off sz 0 cap) 0 [] := SrcQ.none i off cap
theorem first_q {P : Program} {w : World} {sz q len cap : Nat} {ad : Addr} (vs : Nat → Value) (hs : ad.spot = none) (hv : ∀ j, j < q * sz → w.cell? ⟨ad.block, ad.off + j, none⟩ = some (vs j)) :
    (Builtin.firstCells sz q (.slice (some ad) len cap)).run P w = .ok ((List.range (q * sz)).map vs).toArray w := by
  simp only [Builtin.firstCells]
  exact run_loadCells w ad (q * sz) vs fun j hj => by rw [add_eq hs]; exact hv j hj
theorem first_0 {P : Program} {w : World} {sz len cap : Nat} {ad : Option Addr} : (Builtin.firstCells sz 0 (.slice ad len cap)).run P w = .ok #[] w := by
  cases ad <;> simp [Builtin.firstCells, loadCells, loadCellsFrom]
section
variable {P : Program} {n m : Nat} {F : Nat → Prop} {G : Gh} {env : Env} {σ : Sto} {a : Act} {w : World}
theorem srcQ_run (hs : Sim n m F G env σ a w) {v : Value} {p : PV} {sz k q0 : Nat} {ys : List PV} (hr : RepN G w v p) (h : SrcQ σ sz p k q0 ys) :
    (∀ w', (Builtin.lenOf v).run P w' = .ok k w') ∧ ys.length = q0 * sz ∧ q0 ≤ k ∧ ∀ q, q ≤ q0 → ∃ news : Array Value, (Builtin.firstCells sz q v).run P w = .ok news w ∧ (Builtin.firstCells sz q v).run P w.drew = .ok news w.drew ∧ news.size = q * sz ∧
      ∀ (j : Nat) u c, news[j]? = some u → (ys.take (q * sz))[j]? = some c → RepS G w u c ∧ c.lt σ.length := by
  cases h with
  | sl es =>
    obtain ⟨ad, cap, rfl, h'⟩ := ((hr.toS rfl).slv).slv
    rcases h' with rfl | ⟨ad, p, vs, rfl, hsp, hK, hp, hc, hsz, hv, hrr⟩
    · refine ⟨fun w' => rfl, by simp [flat], Nat.le_refl _, fun q hq => ?_⟩
      have : q = 0 := by simpa using hq
      subst this
      exact ⟨#[], first_0, first_0, by simp, fun j u c hj => by simp at hj⟩
    · refine ⟨fun w' => rfl, flat_length hsz, Nat.le_refl _, fun q hq => ?_⟩
      have hmul : q * sz ≤ es.length * sz := Nat.mul_le_mul_right _ hq
      refine ⟨_, first_q vs hsp (fun j hj => hv j (by omega)), first_q vs hsp (fun j hj => hv j (by omega)), by simp, fun j u c hj hcc => ?_⟩
      rw [List.getElem?_take] at hcc
      split at hcc
      · rename_i hjq
        simp [hjq] at hj
        subst hj
        have := hrr j c hcc
        exact ⟨.pl this, this.lt _⟩
      · cases hcc
  | row i off k q0 cap cs hi hqk hle hS =>
    obtain ⟨ad, rfl, c1, c3⟩ := (hr.toS rfl).xslv
    have hlen : ((cs.drop off).take (q0 * sz)).length = q0 * sz := by rw [List.length_take, List.length_drop]; omega
    refine ⟨fun w' => rfl, hlen, hqk, fun q hq => ?_⟩
    by_cases hk : q0 = 0
    · have : q = 0 := by omega
      subst this
      exact ⟨#[], first_0, first_0, by simp, fun j u c hj => by simp at hj⟩
    · obtain ⟨c3, _⟩ := c3.resolve_left (by omega)
      subst c3
      obtain ⟨hK, hsp, hcell⟩ := hs.sto i _ hi
      have hst := hs.stolt i _ hi
      simp only [Ent.lt] at hst
      have hmul : q * sz ≤ q0 * sz := Nat.mul_le_mul_right _ hq
      have hvals : ∀ j : Nat, ∃ v, j < q0 * sz → w.cell? ⟨G.bs i, off + j, none⟩ = some v ∧ ∀ c, cs[off + j]? = some c → RepS G w v c ∧ c.lt σ.length := by
        intro j
        by_cases hj : j < q0 * sz
        · have hlt : off + j < cs.length := by omega
          obtain ⟨v, h1, h2⟩ := hcell (off + j) cs[off + j] (by simp [hlt])
          refine ⟨v, fun _ => ⟨h1, fun c hc => ?_⟩⟩
          have hcc : c = cs[off + j] := by simpa [hlt] using hc.symm
          subst hcc
          have hiS := List.all_eq_true.1 hS cs[off + j] (List.mem_of_getElem? (i := j) (by rw [List.getElem?_take, if_pos hj, List.getElem?_drop]; exact hc))
          exact ⟨h2.toS hiS, ltAll_iff.1 hst _ (List.getElem_mem hlt)⟩
        · exact ⟨undef, fun h => absurd h hj⟩
      obtain ⟨vs, hvs⟩ := Classical.axiomOfChoice hvals
      refine ⟨_, first_q vs rfl (fun j hj => (hvs j (by omega)).1), first_q vs rfl (fun j hj => (hvs j (by omega)).1), by simp, fun j u c hj hcc => ?_⟩
      rw [List.getElem?_take] at hcc
      split at hcc
      · rename_i hjq
        simp [hjq] at hj
        subst hj
        rw [List.getElem?_take, if_pos (by omega), List.getElem?_drop] at hcc
        exact (hvs j (by omega)).2 c hcc
      · cases hcc
  | none i off cap =>
    obtain ⟨ad, rfl, c1, c3⟩ := (hr.toS rfl).xslv
    refine ⟨fun w' => rfl, by simp, Nat.le_refl _, fun q hq => ?_⟩
    have : q = 0 := by omega
    subst this
    exact ⟨#[], first_0, first_0, by simp, fun j u c hj => by simp at hj⟩
theorem srcR_run (hs : Sim n m F G env σ a w) {v : Value} {p : PV} {sz k : Nat} {ys : List PV} (hr : RepN G w v p) (h : SrcR σ sz p k ys) :
    (∀ w', (Builtin.lenOf v).run P w' = .ok k w') ∧ ys.length = k * sz ∧ ∀ q, q ≤ k → ∃ news : Array Value, (Builtin.firstCells sz q v).run P w = .ok news w ∧ (Builtin.firstCells sz q v).run P w.drew = .ok news w.drew ∧ news.size = q * sz ∧
      ∀ (j : Nat) u c, news[j]? = some u → (ys.take (q * sz))[j]? = some c → RepS G w u c ∧ c.lt σ.length :=
  let ⟨h1, h2, _, h3⟩ := srcQ_run hs hr h; ⟨h1, h2, h3⟩
theorem putAt_nil (l : List PV) (o : Nat) : putAt l o [] = l := by cases l <;> cases o <;> rfl
theorem set_same {i : Nat} {e : Ent} (hi : σ[i]? = some e) : σ.set i e = σ := by
  refine List.ext_getElem? fun j => ?_
  rw [List.getElem?_set]
  split
  · rename_i e'; subst e'; rw [hi]; simp [(List.getElem?_eq_some_iff.1 hi).1]
  · rfl
/-- The run of an append, whatever its operands. -/
theorem run_appendK {tS tX eT ty : TypeId} {e : TI} (hu : P.underlying tS = some (.slice eT)) (hT : TyOK P eT e) {uX : TypeDesc} (hX : P.underlying tX = some uX) (hXi : ∀ k, uX ≠ .int k)
    {base : Option Addr} {sLen sCap k : Nat} {x : Value} {news : Array Value} (hlen : ∀ w', (Builtin.lenOf x).run P w' = .ok k w') (hf : (Builtin.firstCells e.size k x).run P w = .ok news w) (hfD : (Builtin.firstCells e.size k x).run P w.drew = .ok news w.drew) (olds : Array Value)
    (hold : (Builtin.firstCells e.size sLen (.slice base sLen sCap)).run P w.drew = .ok olds w.drew) (hle : sLen ≤ sCap) (h63 : sLen + k ≤ 9223372036854775807) (hfit : (sLen + k) * e.bytes ≤ 140737488355328) :
    (sLen + k ≤ sCap → (Builtin.append_ #[tS, tX] ty #[.slice base sLen sCap, x]).run P w =
      ((match base with | some a => storeCells (a.add (sLen * e.size)) news.toList | none => pure ()).run P w).andThen fun _ w' => .ok (.slice base (sLen + k) sCap) w') ∧
    (¬ sLen + k ≤ sCap → ∃ zs : Array Value, zs.size = (grownCap w (sLen + k) sCap eT - (sLen + k)) * e.size ∧ (Builtin.append_ #[tS, tX] ty #[.slice base sLen sCap, x]).run P w =
      .ok (.slice (some ⟨w.heap.size, 0, none⟩) (sLen + k) (grownCap w (sLen + k) sCap eT)) (w.drew.alloc (.cells (olds ++ news ++ zs) eT))) := by
  obtain ⟨info, z, hi1, hi2, hi3, hi4, hi5⟩ := hT.inf
  have hzs : ((uX matches .int _) : Bool) = false := by cases uX <;> first | rfl | exact absurd rfl (hXi _)
  have hsize : ∀ w', (sizeOf eT).run P w' = .ok e.size w' := hT.rsize
  constructor
  · intro hfits
    simp only [Builtin.append_, List.getElem?_toArray, List.getElem?_cons_zero, List.getElem?_cons_succ, Sem.run_bind, underlying, hu, hX, run_program, Result.andThen_ok, Sem.run_pure, hsize, hzs, hlen, hfits, if_true, hf, Bool.false_eq_true, if_false, Bool.not_false]
    cases base <;> simp
  · intro hfits
    have hns : Builtin.nextslicecap (sLen + k) sCap * e.bytes ≤ 281474976710656 := by
      have := nextslicecap_le (need := sLen + k) (old := sCap) (by omega)
      calc _ ≤ 2 * (sLen + k) * e.bytes := Nat.mul_le_mul_right _ this
        _ = 2 * ((sLen + k) * e.bytes) := Nat.mul_assoc _ _ _
        _ ≤ _ := by omega
    have hz : z.cells.size = e.size := by
      have := (zcs_get hi5).1
      rw [← hT.zl, ← this]; simp
    refine ⟨Builtin.zeroCells z.cells (grownCap w (sLen + k) sCap eT - (sLen + k)), by rw [size_zeroCells, hz], ?_⟩
    have h1 : ¬ ((sLen + k : Nat) : Int) > IntKind.i64.max := by simp only [IntKind.max, IntKind.signed, IntKind.bits, if_true]; omega
    have h2 : ¬ Builtin.nextslicecap (sLen + k) sCap * info.bytes > 2 ^ 48 := by rw [hi3]; omega
    simp only [Builtin.append_, List.getElem?_toArray, List.getElem?_cons_zero, List.getElem?_cons_succ, Sem.run_bind, underlying, hu, hX, run_program, Result.andThen_ok, Sem.run_pure, hsize, hzs, hlen, hfits, Bool.false_eq_true, if_false, Bool.not_false, typeInfo, hi1, h1, false_and, h2, run_choose, Question.forced]
    have hd : ({ heap := w.heap, tape := w.tape, drawn := w.drawn + 1, os := w.os, output := w.output } : World) = w.drew := rfl
    have hgc : (Question.appendCap (sLen + k) sCap eT).cut (w.tape w.drawn (Question.appendCap (sLen + k) sCap eT)) = grownCap w (sLen + k) sCap eT := rfl
    have hzr : (zeroValue eT).run P w.drew = .ok z w.drew := by simp [zeroValue, typeInfo, hi1, hi4]
    rw [hd, hgc, run_askRoom, Result.andThen_ok, hold, Result.andThen_ok, if_pos trivial, hfD, Result.andThen_ok, hzr, Result.andThen_ok]
    simp only [newRow, Sem.run_bind, run_newObj, Result.andThen_ok, Sem.run_pure]
    rfl
/-- The run of an append of so many zero values. -/
theorem run_appendZ {tS tX eT ty : TypeId} {e : TI} (hu : P.underlying tS = some (.slice eT)) (hT : TyOK P eT e) {kX : IntKind} (hX : P.underlying tX = some (.int kX))
    {base : Option Addr} {sLen sCap k : Nat} {kz : IntKind} (olds : Array Value)
    (hold : (Builtin.firstCells e.size sLen (.slice base sLen sCap)).run P w.drew = .ok olds w.drew) (hle : sLen ≤ sCap) (h63 : sLen + k ≤ 9223372036854775807) (hfit : (sLen + k) * e.bytes ≤ 140737488355328) (hroom : ¬ sLen + k ≤ sCap) :
    ∃ zs : Array Value, zs.size = (grownCap w (sLen + k) sCap eT - sLen) * e.size ∧ (Builtin.append_ #[tS, tX] ty #[.slice base sLen sCap, .int kz (k : Int)]).run P w =
      .ok (.slice (some ⟨w.heap.size, 0, none⟩) (sLen + k) (grownCap w (sLen + k) sCap eT)) (w.drew.alloc (.cells (olds ++ zs) eT)) := by
  obtain ⟨info, z, hi1, hi2, hi3, hi4, hi5⟩ := hT.inf
  have hsize : ∀ w', (sizeOf eT).run P w' = .ok e.size w' := hT.rsize
  have hns : Builtin.nextslicecap (sLen + k) sCap * e.bytes ≤ 281474976710656 := by
    have := nextslicecap_le (need := sLen + k) (old := sCap) (by omega)
    calc _ ≤ 2 * (sLen + k) * e.bytes := Nat.mul_le_mul_right _ this
      _ = 2 * ((sLen + k) * e.bytes) := Nat.mul_assoc _ _ _
      _ ≤ _ := by omega
  have hz : z.cells.size = e.size := by
    have := (zcs_get hi5).1
    rw [← hT.zl, ← this]; simp
  have hge : sLen + k ≤ grownCap w (sLen + k) sCap eT := grownCap_ge _ _ _ _
  have hwr : IntKind.i64.wrap (k : Int) = (k : Int) := wrap_in (by simp only [InR]; omega)
  have h0 : ¬ ((k : Int) < 0) := by omega
  have hkb : k * e.bytes ≤ 140737488355328 := Nat.le_trans (Nat.mul_le_mul_right _ (Nat.le_add_left _ _)) hfit
  have h0b : ¬ ((k : Int) * (info.bytes : Int) > 2 ^ 48) := by
    rw [hi3]
    have : ((k : Int) * (e.bytes : Int)) = ((k * e.bytes : Nat) : Int) := by simp
    rw [this]; omega
  have h1 : ¬ ((sLen + k : Nat) : Int) > IntKind.i64.max := by simp only [IntKind.max, IntKind.signed, IntKind.bits, if_true]; omega
  have h2 : ¬ Builtin.nextslicecap (sLen + k) sCap * info.bytes > 2 ^ 48 := by rw [hi3]; omega
  have hd : ({ heap := w.heap, tape := w.tape, drawn := w.drawn + 1, os := w.os, output := w.output } : World) = w.drew := rfl
  have hgc : (Question.appendCap (sLen + k) sCap eT).cut (w.tape w.drawn (Question.appendCap (sLen + k) sCap eT)) = grownCap w (sLen + k) sCap eT := rfl
  have hzr : ∀ w', (zeroValue eT).run P w' = .ok z w' := fun w' => by simp [zeroValue, typeInfo, hi1, hi4]
  by_cases hk0 : k * e.size = 0
  · refine ⟨#[] ++ Builtin.zeroCells z.cells (grownCap w (sLen + k) sCap eT - (sLen + k)), ?_, ?_⟩
    · rw [Array.size_append, size_zeroCells, hz]
      have : k = 0 ∨ e.size = 0 := Nat.mul_eq_zero.1 hk0
      rcases this with h | h
      · simp [h]
      · simp [h]
    · simp only [Builtin.append_, List.getElem?_toArray, List.getElem?_cons_zero, List.getElem?_cons_succ, Sem.run_bind, underlying, hu, hX, run_program, Result.andThen_ok, Sem.run_pure, hsize, if_true, asInt, asIntOf, hwr, h0, if_false, typeInfo, hi1, h0b, Int.toNat_natCast, hroom, h1, false_and, h2, run_choose, Question.forced, Bool.not_true, Bool.false_eq_true]
      rw [hd, hgc, run_askRoom, Result.andThen_ok, hold, Result.andThen_ok, if_pos hk0]
      simp only [Sem.run_pure, Result.andThen_ok, hzr, newRow, Sem.run_bind, run_newObj]
      rw [Array.append_assoc]
      rfl
  · refine ⟨Builtin.zeroCells z.cells k ++ Builtin.zeroCells z.cells (grownCap w (sLen + k) sCap eT - (sLen + k)), ?_, ?_⟩
    · rw [Array.size_append, size_zeroCells, size_zeroCells, hz, ← Nat.add_mul]; congr 1; omega
    · simp only [Builtin.append_, List.getElem?_toArray, List.getElem?_cons_zero, List.getElem?_cons_succ, Sem.run_bind, underlying, hu, hX, run_program, Result.andThen_ok, Sem.run_pure, hsize, if_true, asInt, asIntOf, hwr, h0, if_false, typeInfo, hi1, h0b, Int.toNat_natCast, hroom, h1, false_and, h2, run_choose, Question.forced, Bool.not_true, Bool.false_eq_true]
      rw [hd, hgc, run_askRoom, Result.andThen_ok, hold, Result.andThen_ok, if_neg hk0]
      simp only [Sem.run_pure, Result.andThen_ok, hzr, newRow, Sem.run_bind, run_newObj]
      rw [Array.append_assoc]
      rfl
end
section
variable {P : Program} {l : Option Nat} {tt : TT} {n m : Nat} {all : Array Oper} {rest : List Oper} {env : Env} {σ : Sto} {Q : Post} {d : Nat} {dd : Option Nat} {ty : TypeId} {pos : String} {after : Array Edge} {g : Option (Nat × Bool)}
/-- A copy into such a row. -/
theorem op_copyR (ht : TabOK P tt) {tD tS : TypeId} {x y : Operand} {e : TI} {i off sz len cap k q0 : Nat} {cs ys : List PV} {q : PV} (he : eti tt tD = some e) (hsz : Nat.beq e.size sz = true)
    (hx : opv tt env tD x = .xsl i off sz len cap) (hi : σ[i]? = some (.cells cs)) (hq : opv tt env tS y = q) (hy : SrcQ σ sz q k q0 ys) (hq0 : min k len ≤ q0) (hle : off + len * sz ≤ cs.length) (h1 : ys.all PV.one = true) (hd : Nat.ble (d + 1) n = true)
    (h : SatOps P l n m all rest ((d, .int .i64 (min k len : Nat)) :: env) (σ.set i (.cells (putAt cs off (ys.take (min k len * sz))))) Q) :
    SatOps P l n m all (⟨some d, .call ⟨.builtin .copy, #[x, y], #[tD, tS]⟩, ty, pos, after, none⟩ :: rest) env σ Q := by
  refine op_gen rfl (by simp) fun F G a w hs => ?_
  have hsz := Nat.eq_of_beq_eq_true hsz
  have hxo := opv_ok hs tt tD x
  have hyo := opv_ok hs tt tS y
  rw [hx] at hxo
  rw [hq] at hyo
  obtain ⟨ad, ex, c1, c3⟩ := (hxo.toS rfl).xslv
  obtain ⟨eT, hu, hT⟩ := eti_ok ht he
  obtain ⟨r1, r2, _, r3⟩ := srcQ_run (P := P) hs hyo hy
  obtain ⟨news, r3, _, r4, r5⟩ := r3 (min k len) hq0
  have hz := hT.rsize w
  have hmul : min k len * sz ≤ q0 * sz := Nat.mul_le_mul_right _ hq0
  have hmul2 : min k len * sz ≤ len * sz := Nat.mul_le_mul_right _ (Nat.min_le_right _ _)
  have hlen : (ys.take (min k len * sz)).length = min k len * sz := by rw [List.length_take, r2]; omega
  have fin : ∀ w', (execOp a.eval ⟨some d, .call ⟨.builtin .copy, #[x, y], #[tD, tS]⟩, ty, pos, after, none⟩).run P w = .ok (.value (.int .i64 (min k len : Nat))) w' → Sim n m F G env (σ.set i (.cells (putAt cs off (ys.take (min k len * sz))))) a w' → Evol m F G w G w' → ∃ v w' G' env' σ', ((execOp a.eval ⟨some d, .call ⟨.builtin .copy, #[x, y], #[tD, tS]⟩, ty, pos, after, none⟩).run P w = .ok (.value v) w' ∨ ((execOp a.eval ⟨some d, .call ⟨.builtin .copy, #[x, y], #[tD, tS]⟩, ty, pos, after, none⟩).run P w = .ok .skip w' ∧ v = undef)) ∧
      Sim n m F G' env' σ' (a.put (some d) v) w' ∧ Evol m F G w G' w' ∧ SatOps P l n m all rest env' σ' Q := fun w' hrun hsim hev =>
    ⟨_, w', G, _, _, .inl hrun, hsim.setS (ltn hd) (.pl (.int _ _)) trivial, hev, h⟩
  by_cases h0 : min k len = 0
  · have hn : news = #[] := Array.eq_empty_of_size_eq_zero (by rw [r4, h0, Nat.zero_mul])
    subst hn
    have hσ : σ.set i (.cells (putAt cs off (ys.take (min k len * sz)))) = σ := by rw [h0, Nat.zero_mul, List.take_zero, putAt_nil]; exact set_same hi
    refine fin w ?_ (by rw [hσ]; exact hs) (.refl _ _ _ _)
    have hm : Nat.min k len = 0 := h0
    rw [h0] at r3 ⊢
    cases ad <;> simp [execOp, resolve, invoke, builtin, Builtin.copy_, underlying, hu, ex, r1, hm, hz, hsz, r3, storeCells, goInt]
  · have hl0 : len ≠ 0 := fun e => h0 (by rw [e]; simp)
    obtain ⟨c3, _⟩ := c3.resolve_left (by omega)
    subst c3
    obtain ⟨w1, w2, w3⟩ := hs.boxWrite (P := P) hi off news.toList (ys.take (min k len * sz)) (by rw [hlen]; simpa using r4) (fun j v c hv hc => (r5 j v c (by simpa using hv) hc).1) (by
        rw [ltAll_iff]; intro p hp
        obtain ⟨j, hj, rfl⟩ := List.getElem_of_mem hp
        have hj' : j < news.size := by rw [r4, ← hlen]; exact hj
        exact (r5 j news[j] _ (by simp [hj']) (List.getElem?_eq_getElem hj)).2) (by
        rw [List.all_eq_true] at h1 ⊢; intro p hp; exact h1 p (List.mem_of_mem_take hp)) (by rw [hlen]; omega)
    refine fin _ ?_ w2 w3
    have hm : Nat.min k len = min k len := rfl
    simp [execOp, resolve, invoke, builtin, Builtin.copy_, underlying, hu, ex, r1, hm, hz, hsz, r3, w1, goInt]
/-- An append for which there is room. -/
theorem op_appendR (ht : TabOK P tt) {tS tX : TypeId} {x y : Operand} {e iX : TI} {eX i off sz len cap k : Nat} {cs ys : List PV} {q : PV} (he : eti tt tS = some e) (hsz : Nat.beq e.size sz = true) (hX : tl tt tX = some iX) (hXi : iX.desc = .slice eX)
    (hx : opv tt env tS x = .xsl i off sz len cap) (hi : σ[i]? = some (.cells cs)) (hq : opv tt env tX y = q) (hy : SrcR σ sz q k ys) (hroom : len + k ≤ cap) (hle : off + (len + k) * sz ≤ cs.length) (h1 : ys.all PV.one = true)
    (hfit : (len + k) * (e.bytes + 1) ≤ 140737488355328) (hd : Nat.ble (d + 1) n = true)
    (h : SatOps P l n m all rest ((d, .xsl i off sz (len + k) cap) :: env) (σ.set i (.cells (putAt cs (off + len * sz) ys))) Q) :
    SatOps P l n m all (⟨some d, .call ⟨.builtin .append, #[x, y], #[tS, tX]⟩, ty, pos, after, none⟩ :: rest) env σ Q := by
  refine op_gen rfl (by simp) fun F G a w hs => ?_
  have hsz := Nat.eq_of_beq_eq_true hsz
  have hxo := opv_ok hs tt tS x
  have hxl := opv_lt hs tt tS x
  have hyo := opv_ok hs tt tX y
  rw [hx] at hxo hxl
  rw [hq] at hyo
  obtain ⟨ad, ex, c1, c3⟩ := (hxo.toS rfl).xslv
  obtain ⟨eT, hu, hT⟩ := eti_ok ht he
  subst hsz
  obtain ⟨r1, r2, r3⟩ := srcR_run (P := P) hs hyo hy
  obtain ⟨news, r3, r3D, r4, r5⟩ := r3 k (Nat.le_refl _)
  rw [← r2, List.take_length] at r5
  rw [Nat.mul_add, Nat.mul_one] at hfit
  -- what lay there is not looked at
  have hin : (Builtin.append_ #[tS, tX] ty #[.slice ad len cap, a.eval y]).run P w =
      ((match ad with | some b => storeCells (b.add (len * e.size)) news.toList | none => pure ()).run P w).andThen fun _ w' => .ok (.slice ad (len + k) cap) w' := by
    have hX' := (ht _ _ hX).und
    rw [hXi] at hX'
    have hsize : ∀ w', (sizeOf eT).run P w' = .ok e.size w' := hT.rsize
    simp only [Builtin.append_, List.getElem?_toArray, List.getElem?_cons_zero, List.getElem?_cons_succ, Sem.run_bind, underlying, hu, hX', run_program, Result.andThen_ok, Sem.run_pure, hsize, r1, hroom, if_true, r3, Bool.false_eq_true, if_false, Bool.not_false]
    cases ad <;> simp
  have fin : ∀ w', (Builtin.append_ #[tS, tX] ty #[.slice ad len cap, a.eval y]).run P w = .ok (.slice ad (len + k) cap) w' → Sim n m F G env (σ.set i (.cells (putAt cs (off + len * e.size) ys))) a w' → Evol m F G w G w' → ∃ v w' G' env' σ', ((execOp a.eval ⟨some d, .call ⟨.builtin .append, #[x, y], #[tS, tX]⟩, ty, pos, after, none⟩).run P w = .ok (.value v) w' ∨ ((execOp a.eval ⟨some d, .call ⟨.builtin .append, #[x, y], #[tS, tX]⟩, ty, pos, after, none⟩).run P w = .ok .skip w' ∧ v = undef)) ∧
      Sim n m F G' env' σ' (a.put (some d) v) w' ∧ Evol m F G w G' w' ∧ SatOps P l n m all rest env' σ' Q := fun w' hrun hsim hev =>
    ⟨_, w', G, _, _, .inl (by simp [execOp, resolve, invoke, builtin, ex, hrun]), hsim.setS (ltn hd) (.xsl _ _ _ _ _ _ hroom c3) (by simp only [PV.lt, List.length_set] at hxl ⊢; exact hxl), hev, h⟩
  by_cases h0 : k = 0
  · subst h0
    have hn : news = #[] := Array.eq_empty_of_size_eq_zero (by rw [r4, Nat.zero_mul])
    subst hn
    have hy0 : ys = [] := List.length_eq_zero_iff.1 (by rw [r2, Nat.zero_mul])
    subst hy0
    have hσ : σ.set i (.cells (putAt cs (off + len * e.size) [])) = σ := by rw [putAt_nil]; exact set_same hi
    refine fin w ?_ (by rw [hσ]; exact hs) (.refl _ _ _ _)
    rw [hin]
    cases ad <;> simp [storeCells]
  · obtain ⟨c3', _⟩ := c3.resolve_left (by omega)
    subst c3'
    obtain ⟨w1, w2, w3⟩ := hs.boxWrite (P := P) hi (off + len * e.size) news.toList ys (by rw [r2]; simpa using r4) (fun j v c hv hc => (r5 j v c (by simpa using hv) hc).1) (by
        rw [ltAll_iff]; intro p hp
        obtain ⟨j, hj, rfl⟩ := List.getElem_of_mem hp
        have hj' : j < news.size := by rw [r4, ← r2]; exact hj
        exact (r5 j news[j] _ (by simp [hj']) (List.getElem?_eq_getElem hj)).2) h1 (by rw [r2, Nat.add_assoc, ← Nat.add_mul]; exact hle)
    refine fin _ ?_ w2 w3
    rw [hin]
    simp only [add_eq, w1, Result.andThen_ok]
/-- An append for which there is no room: a new row. -/
theorem op_appendN (ht : TabOK P tt) {tS tX : TypeId} {x y : Operand} {e iX : TI} {eX i off sz len cap k : Nat} {zs ys : List PV} {q : PV} (he : eti tt tS = some e) (hsz : Nat.beq e.size sz = true) (hX : tl tt tX = some iX) (hXi : iX.desc = .slice eX)
    (hx : opv tt env tS x = .xsl i off sz len cap) (hb : SrcR σ sz (.xsl i off sz len cap) len zs) (hq : opv tt env tX y = q) (hy : SrcR σ sz q k ys) (hroom : cap < len + k)
    (hfit : (len + k) * (e.bytes + 1) ≤ 140737488355328) (hd : Nat.ble (d + 1) n = true)
    (h : ∀ c, len + k ≤ c → SatOps P l n m all rest ((d, .xsl σ.length 0 sz (len + k) c) :: env) (σ ++ [.cells (zs ++ ys ++ List.replicate ((c - (len + k)) * sz) .dead)]) Q) :
    SatOps P l n m all (⟨some d, .call ⟨.builtin .append, #[x, y], #[tS, tX]⟩, ty, pos, after, none⟩ :: rest) env σ Q := by
  refine op_gen rfl (by simp) fun F G a w hs => ?_
  have hsz := Nat.eq_of_beq_eq_true hsz
  have hxo := opv_ok hs tt tS x
  have hyo := opv_ok hs tt tX y
  rw [hx] at hxo
  rw [hq] at hyo
  obtain ⟨ad, ex, c1, c3⟩ := (hxo.toS rfl).xslv
  obtain ⟨eT, hu, hT⟩ := eti_ok ht he
  subst hsz
  obtain ⟨r1, r2, r3⟩ := srcR_run (P := P) hs hyo hy
  obtain ⟨news, r3, r3D, r4, r5⟩ := r3 k (Nat.le_refl _)
  rw [← r2, List.take_length] at r5
  obtain ⟨b1, b2, b3⟩ := srcR_run (P := P) hs hxo hb
  obtain ⟨olds, b3, b3D, b4, b5⟩ := b3 len (Nat.le_refl _)
  rw [← b2, List.take_length] at b5
  rw [Nat.mul_add, Nat.mul_one] at hfit
  rw [ex] at b3D
  obtain ⟨zv, hzv, hrun⟩ := (run_appendK (w := w) (ty := ty) hu hT (ht _ _ hX).und (by rw [hXi]; simp) r1 r3 r3D olds b3D c1 (by omega) (by omega)).2 (by omega)
  have hge : len + k ≤ grownCap w (len + k) cap eT := grownCap_ge _ _ _ _
  have hs0 := hs.drew
  have hzl : zs.length = olds.size := by rw [b2, b4]
  have hyl : ys.length = news.size := by rw [r2, r4]
  have hget : ∀ (j : Nat) v c, (olds ++ news ++ zv)[j]? = some v → (zs ++ ys ++ List.replicate ((grownCap w (len + k) cap eT - (len + k)) * e.size) PV.dead)[j]? = some c → c = .dead ∨ (RepS G w v c ∧ c.lt σ.length) := by
    intro j v c hv hc
    rw [List.append_assoc] at hc
    rw [Array.append_assoc] at hv
    by_cases h1 : j < zs.length
    · rw [List.getElem?_append_left h1] at hc
      rw [Array.getElem?_append_left (by omega)] at hv
      exact .inr (b5 j v c hv hc)
    · rw [List.getElem?_append_right (by omega)] at hc
      rw [Array.getElem?_append_right (by omega)] at hv
      by_cases h2 : j - zs.length < ys.length
      · rw [List.getElem?_append_left h2] at hc
        rw [Array.getElem?_append_left (by omega)] at hv
        exact .inr (r5 _ v c (by rw [hzl]; exact hv) hc)
      · rw [List.getElem?_append_right (by omega)] at hc
        exact .inl (List.eq_of_mem_replicate (List.mem_of_getElem? hc))
  have hs1 := hs0.box (olds ++ news ++ zv) eT (zs ++ ys ++ List.replicate ((grownCap w (len + k) cap eT - (len + k)) * e.size) PV.dead) (by simp only [List.length_append, List.length_replicate, Array.size_append, hzv, hzl, hyl]; exact Nat.le_refl _) (by
      rw [ltAll_iff]; intro p hp
      obtain ⟨j, hj, rfl⟩ := List.getElem_of_mem hp
      have hj' : j < (olds ++ news ++ zv).size := by
        simp only [List.length_append, List.length_replicate] at hj
        simp only [Array.size_append, hzv, ← hzl, ← hyl]; exact hj
      rcases hget j _ _ (Array.getElem?_eq_getElem hj') (List.getElem?_eq_getElem hj) with e | ⟨_, e⟩
      · rw [e]; trivial
      · exact e) (fun j v c hv hc => by
      rcases hget j v c hv hc with rfl | ⟨e, e2⟩
      · exact .dead _
      · exact .sh (e.mono (n := σ.length) (fun _ p h => ⟨p, ⟨Nat.le_refl _, rfl⟩, h, fun _ _ => rfl⟩) (fun _ _ => rfl) e2)) (.of_sh fun j v c hv hc => by
      rcases hget j v c hv hc with rfl | ⟨e, _⟩
      · exact ownB_dead _
      · exact ownB_sh e)
  refine ⟨.slice (some ⟨w.heap.size, 0, none⟩) (len + k) (grownCap w (len + k) cap eT), _, _, _, _, .inl (run_app (by rw [ex]; exact hrun)), hs1.setS (ltn hd) (.xsl _ σ.length 0 e.size _ _ hge (.inr ⟨?_, ?_⟩)) (.inr (by simp)), (Evol.drew hs).trans (Evol.alloc hs0 _ _ _ fun i hi => upd_ne _ _ (by have := hs.floor; omega)), h _ hge⟩
  · simp only [upd_same]; rfl
  · simp only [upd_same]
/-- The same of so many zero values. -/
theorem op_appendZ (ht : TabOK P tt) {tS tX : TypeId} {x y : Operand} {e iX : TI} {kX kz : IntKind} {i off sz len cap : Nat} {z : Int} {zs : List PV} (he : eti tt tS = some e) (hsz : Nat.beq e.size sz = true) (hX : tl tt tX = some iX) (hXi : iX.desc = .int kX)
    (hx : opv tt env tS x = .xsl i off sz len cap) (hb : SrcR σ sz (.xsl i off sz len cap) len zs) (hq : opv tt env tX y = .int kz z) (h0 : 0 ≤ z) (hroom : cap < len + z.toNat)
    (hfit : (len + z.toNat) * (e.bytes + 1) ≤ 140737488355328) (hd : Nat.ble (d + 1) n = true)
    (h : ∀ c, len + z.toNat ≤ c → SatOps P l n m all rest ((d, .xsl σ.length 0 sz (len + z.toNat) c) :: env) (σ ++ [.cells (zs ++ List.replicate ((c - len) * sz) .dead)]) Q) :
    SatOps P l n m all (⟨some d, .call ⟨.builtin .append, #[x, y], #[tS, tX]⟩, ty, pos, after, none⟩ :: rest) env σ Q := by
  refine op_gen rfl (by simp) fun F G a w hs => ?_
  obtain ⟨k, rfl⟩ : ∃ k : Nat, z = k := ⟨z.toNat, by omega⟩
  rw [Int.toNat_natCast] at *
  have hsz := Nat.eq_of_beq_eq_true hsz
  have hxo := opv_ok hs tt tS x
  have hyo := opv_ok hs tt tX y
  rw [hx] at hxo
  rw [hq] at hyo
  have ey := (hyo.toS rfl).int
  obtain ⟨ad, ex, c1, c3⟩ := (hxo.toS rfl).xslv
  obtain ⟨eT, hu, hT⟩ := eti_ok ht he
  subst hsz
  obtain ⟨b1, b2, b3⟩ := srcR_run (P := P) hs hxo hb
  obtain ⟨olds, b3, b3D, b4, b5⟩ := b3 len (Nat.le_refl _)
  rw [← b2, List.take_length] at b5
  rw [Nat.mul_add, Nat.mul_one] at hfit
  rw [ex] at b3D
  obtain ⟨zv, hzv, hrun⟩ := run_appendZ (w := w) (ty := ty) (kz := kz) (k := k) hu hT (by rw [(ht _ _ hX).und, hXi]) olds b3D c1 (by omega) (by omega) (by omega)
  have hge : len + k ≤ grownCap w (len + k) cap eT := grownCap_ge _ _ _ _
  have hs0 := hs.drew
  have hzl : zs.length = olds.size := by rw [b2, b4]
  have hget : ∀ (j : Nat) v c, (olds ++ zv)[j]? = some v → (zs ++ List.replicate ((grownCap w (len + k) cap eT - len) * e.size) PV.dead)[j]? = some c → c = .dead ∨ (RepS G w v c ∧ c.lt σ.length) := by
    intro j v c hv hc
    by_cases h1 : j < zs.length
    · rw [List.getElem?_append_left h1] at hc
      rw [Array.getElem?_append_left (by omega)] at hv
      exact .inr (b5 j v c hv hc)
    · rw [List.getElem?_append_right (by omega)] at hc
      exact .inl (List.eq_of_mem_replicate (List.mem_of_getElem? hc))
  have hs1 := hs0.box (olds ++ zv) eT (zs ++ List.replicate ((grownCap w (len + k) cap eT - len) * e.size) PV.dead) (by simp only [List.length_append, List.length_replicate, Array.size_append, hzv, hzl]; exact Nat.le_refl _) (by
      rw [ltAll_iff]; intro p hp
      obtain ⟨j, hj, rfl⟩ := List.getElem_of_mem hp
      have hj' : j < (olds ++ zv).size := by
        simp only [List.length_append, List.length_replicate] at hj
        simp only [Array.size_append, hzv, ← hzl]; exact hj
      rcases hget j _ _ (Array.getElem?_eq_getElem hj') (List.getElem?_eq_getElem hj) with e | ⟨_, e⟩
      · rw [e]; trivial
      · exact e) (fun j v c hv hc => by
      rcases hget j v c hv hc with rfl | ⟨e, e2⟩
      · exact .dead _
      · exact .sh (e.mono (n := σ.length) (fun _ p h => ⟨p, ⟨Nat.le_refl _, rfl⟩, h, fun _ _ => rfl⟩) (fun _ _ => rfl) e2)) (.of_sh fun j v c hv hc => by
      rcases hget j v c hv hc with rfl | ⟨e, _⟩
      · exact ownB_dead _
      · exact ownB_sh e)
  refine ⟨.slice (some ⟨w.heap.size, 0, none⟩) (len + k) (grownCap w (len + k) cap eT), _, _, _, _, .inl (run_app (by rw [ex, ey]; exact hrun)), hs1.setS (ltn hd) (.xsl _ σ.length 0 e.size _ _ hge (.inr ⟨?_, ?_⟩)) (.inr (by simp)), (Evol.drew hs).trans (Evol.alloc hs0 _ _ _ fun i hi => upd_ne _ _ (by have := hs.floor; omega)), h _ hge⟩
  · simp only [upd_same]; rfl
  · simp only [upd_same]
end
end Go.Proofs.Ytflgoabdgibphaa.Pv
end
section
/- Rows of known capacity: what stands in the way of them; elements of several cells. -/
namespace Go.Proofs.Ytflgoabdgibphaa.Pv
open Go
set_option linter.unusedVariables false
set_option linter.unusedSimpArgs false
section
variable {P : Program} {l : Option Nat} {tt : TT} {n m : Nat} {all : Array Oper} {rest : List Oper} {env : Env} {σ : Sto} {Q : Post} {d : Nat} {dd : Option Nat} {ty : TypeId} {pos : String} {after : Array Edge} {g : Option (Nat × Bool)}
theorem overlaps_none {w : World} {tS tR e : TypeId} (ht : P.underlying tS = some (.slice e)) (size : Nat) (hz : ∀ w, (Go.sizeOf e).run P w = .ok size w) (a b : Option Addr) (la ca lb cb : Nat) (h0 : la = 0 ∨ lb = 0) :
    (Extern.SlicesOverlaps.overlaps #[tS, tS] #[tR] #[.slice a la ca, .slice b lb cb]).run P w = .ok (.bool false) w := by
  have h0' : la = 0 ∨ lb = 0 ∨ size = 0 := h0.imp_right .inl
  change Sem.run P (α := Value) (do
    let some t := (#[tS, tS] : Array TypeId)[0]? | stuck "slices.overlaps: no parameter types"
    let .slice elem ← underlying t | stuck "slices.overlaps: slice type expected"
    let size ← sizeOf elem
    match (a : Option Addr), (b : Option Addr) with
    | some a, some b =>
      if la = 0 ∨ lb = 0 ∨ size = 0 then pure (Value.bool false)
      else if a.block != b.block && (← frozen a) && (← frozen b) then unsupported .addressObserved
      else do
        if a.block != b.block then do
          noView a; noView b
          if ← mayBeOne a b then return Value.bool ((← choose (.extern "sameAddr.stringBytes" 2)) == 1)
        pure (Value.bool (a.block == b.block && a.off < b.off + lb * size && b.off < a.off + la * size))
    | _, _ => pure (Value.bool false)) w = _
  cases a <;> cases b <;> simp [underlying, ht, hz, h0']
theorem overlaps_apart {w : World} {tS tR e : TypeId} (ht : P.underlying tS = some (.slice e)) (size : Nat) (hz : ∀ w, (Go.sizeOf e).run P w = .ok size w)
    (a b : Addr) (la ca lb cb : Nat) (hne : a.block ≠ b.block) (tA tB : TypeId) (kA kB : Nat)
    (hsa : w.shape? a.block = some (tA, kA)) (hsb : w.shape? b.block = some (tB, kB)) (hkA : kA ≠ 0)
    (hfb : w.frozen? b = false) (hfe : w.frozen? { block := b.block, off := kB } = false) :
    (Extern.SlicesOverlaps.overlaps #[tS, tS] #[tR] #[.slice (some a) la ca, .slice (some b) lb cb]).run P w = .ok (.bool false) w := by
  have hnb : (a.block != b.block) = true := by simpa using hne
  have hnb' : (a.block == b.block) = false := by simpa using hne
  change Sem.run P (α := Value) (do
    let some t := (#[tS, tS] : Array TypeId)[0]? | stuck "slices.overlaps: no parameter types"
    let .slice elem ← underlying t | stuck "slices.overlaps: slice type expected"
    let size ← sizeOf elem
    match (some a : Option Addr), (some b : Option Addr) with
    | some a, some b =>
      if la = 0 ∨ lb = 0 ∨ size = 0 then pure (Value.bool false)
      else if a.block != b.block && (← frozen a) && (← frozen b) then unsupported .addressObserved
      else do
        if a.block != b.block then do
          noView a; noView b
          if ← mayBeOne a b then return Value.bool ((← choose (.extern "sameAddr.stringBytes" 2)) == 1)
        pure (Value.bool (a.block == b.block && a.off < b.off + lb * size && b.off < a.off + la * size))
    | _, _ => pure (Value.bool false)) w = _
  by_cases h0 : la = 0 ∨ lb = 0 ∨ size = 0
  · simp [underlying, ht, hz, h0]
  · cases kA with
    | zero => exact absurd rfl hkA
    | succ kA =>
      cases hfa : w.frozen? a with
      | true => simp [run_underlying ht, hz, h0, hnb, hnb', frozen, noView, viewAt, mayBeOne, stringish, shape, Sem.run, hsa, hsb, hfa, hfb, hfe]
      | false =>
        cases hfa2 : w.frozen? { block := a.block, off := kA + 1 } <;>
        simp [run_underlying ht, hz, h0, hnb, hnb', frozen, noView, viewAt, mayBeOne, stringish, shape, Sem.run, hsa, hsb, hfa, hfa2, hfb, hfe]
theorem cell_shape {w : World} {b j : Nat} {v : Value} (h : w.cell? ⟨b, j, none⟩ = some v) : ∃ T k, w.shape? b = some (T, k) ∧ j < k := by
  unfold World.cell? at h
  split at h
  · rename_i c T fz hb
    simp at h
    refine ⟨T, c.size, by simp only [World.shape?]; simp only at hb; rw [hb], ?_⟩
    exact (Array.getElem?_eq_some_iff.1 h).1
  · cases h
/-- slices.overlaps, of a row that does not turn and one in a box: they are apart. -/
theorem op_overlaps (ht : TabOK P tt) {f : FuncId} {fn : Func} {x y : Operand} {tS tR : TypeId} {es cs : List PV} {i off sz len cap : Nat} {e : TI}
    (hf : P.funcs[f]? = some fn) (hname : (fn.name == "runtime.NumGoroutine") = false) (hb : fn.body.isNone = true) (hn : Extern.findNext fn = none) (hfe : Extern.find fn = some (Extern.SlicesOverlaps.overlaps #[tS, tS] #[tR]))
    (he : eti tt tS = some e) (hsz : Nat.beq e.size sz = true) (hx : opv tt env tS x = .sl .sh sz es) (hy : opv tt env tS y = .xsl i off sz len cap) (hi : σ[i]? = some (.cells cs)) (hsz0 : Nat.beq sz 0 = false) (hd : Nat.ble (d + 1) n = true)
    (h : SatOps P l n m all rest ((d, .bool false) :: env) σ Q) :
    SatOps P l n m all (⟨some d, .call ⟨.value (.func f), #[x, y], #[tS, tS]⟩, ty, pos, after, none⟩ :: rest) env σ Q := by
  refine op_gen rfl (by simp) fun F G a w hs => ?_
  have hxo := opv_ok hs tt tS x
  have hyo := opv_ok hs tt tS y
  rw [hx] at hxo
  rw [hy] at hyo
  obtain ⟨eT, hu, hT⟩ := eti_ok ht he
  obtain ⟨ax, cx, ex, hx'⟩ := ((hxo.toS rfl).slv).slv
  obtain ⟨ay, ey, c1, c3⟩ := (hyo.toS rfl).xslv
  have hagg : (isAgg tS).run P w = .ok false w := by simp [isAgg, underlying, hu]
  have hrun : ∀ v1 v2 : Value, (Extern.SlicesOverlaps.overlaps #[tS, tS] #[tR] #[v1, v2]).run P w = .ok (.bool false) w → a.eval x = v1 → a.eval y = v2 →
      (execOp a.eval ⟨some d, .call ⟨.value (.func f), #[x, y], #[tS, tS]⟩, ty, pos, after, none⟩).run P w = .ok (.value (.bool false)) w := by
    intro v1 v2 h1 e1 e2
    have h2 := run_callFunc_extern (P := P) hf hname hb hn hfe #[v1, v2] w
    rw [h1] at h2
    have hff : a.eval (.func f) = .func (.func f) #[] #[] := rfl
    simp [execOp, resolve, invoke, hff, e1, e2, Deferred.ofValue, h2]
  refine ⟨.bool false, w, G, _, σ, .inl ?_, hs.setS (ltn hd) (.pl (.bool _)) trivial, .refl _ _ _ _, h⟩
  rcases hx' with rfl | ⟨ad, p, vs, rfl, hsp, hK, hp, hc, hsz', hv, hr⟩
  · exact hrun _ _ (overlaps_none hu _ hT.rsize _ _ _ _ _ _ (.inl rfl)) ex ey
  · by_cases hl : len = 0
    · exact hrun _ _ (overlaps_none hu _ hT.rsize _ _ _ _ _ _ (.inr hl)) ex ey
    · by_cases hes : es.length = 0
      · exact hrun _ _ (overlaps_none hu _ hT.rsize _ _ _ _ _ _ (.inl hes)) ex ey
      · obtain ⟨c3, c4⟩ := c3.resolve_left (by omega)
        subst c3
        obtain ⟨hK', hsp', hcell⟩ := hs.sto i _ hi
        have hsz0' : sz ≠ 0 := fun e => by rw [e] at hsz0; cases hsz0
        have hpos : 0 < es.length * sz := Nat.mul_pos (by omega) (by omega)
        obtain ⟨T, k, hsh, hk⟩ := cell_shape (hv 0 hpos)
        refine hrun _ _ (overlaps_apart hu _ hT.rsize ad ⟨G.bs i, off, none⟩ _ _ _ _ ?_ T _ k _ hsh hsp'.sh (by omega) (hsp'.nf c4 _) (hsp'.nf c4 _)) ex ey
        intro e'
        simp only at e'
        rw [e', hK'] at hK
        cases hK
theorem equalIn_nil {w : World} {t eT : TypeId} (hu : P.underlying t = some (.slice eT)) (d : Nat) (ad : Option Addr) (ln cp : Nat) : (Op.equalIn (d + 1) t (.slice ad ln cp) (.slice none 0 0)).run P w = .ok ad.isNone w := by
  cases ad <;> simp [Op.equalIn, underlying, hu]
/-- Is a slice nil? -/
theorem op_eqNil (ht : TabOK P tt) {tS tY : TypeId} {x : Operand} {e : TI} {sz : Nat} {es : List PV} (he : eti tt tS = some e) (hx : opv tt env tS x = .sl .sh sz es) (hd : Nat.ble (d + 1) n = true)
    (h : ∀ b, (b = true → es = []) → SatOps P l n m all rest ((d, .bool b) :: env) σ Q) :
    SatOps P l n m all (⟨some d, .binOp .eql tS x (.const (.slice none 0 0)) tY, ty, pos, after, none⟩ :: rest) env σ Q := by
  refine op_gen rfl (by simp) fun F G a w hs => ?_
  have hxo := opv_ok hs tt tS x
  rw [hx] at hxo
  obtain ⟨eT, hu, hT⟩ := eti_ok ht he
  obtain ⟨ax, cx, ex, hx'⟩ := ((hxo.toS rfl).slv).slv
  have hg : (eqGuard .eql tS x (.const (.slice none 0 0)) (a.eval x) (.slice none 0 0)).run P w = .ok () w := eqGuard_plain (by simp [ex]) (by simp [ex])
  have hc : a.eval (.const (.slice none 0 0)) = .slice none 0 0 := rfl
  have hb : (binOp .eql tS (a.eval x) (.slice none 0 0)).run P w = .ok (.bool ax.isNone) w := by
    rw [ex]
    have := equalIn_nil (P := P) (w := w) hu 9999 ax es.length cx
    simp only [binOp, Op.equal, Op.maxDepth, Sem.run_bind, this, Result.andThen_ok, Sem.run_pure]
  refine ⟨.bool ax.isNone, w, G, _, σ, .inl ?_, hs.setS (ltn hd) (.pl (.bool _)) trivial, .refl _ _ _ _, h _ fun hn => ?_⟩
  · simp only [execOp, hc, Sem.run_bind, hg, Result.andThen_ok, hb, Sem.run_pure]
  · rcases hx' with h | ⟨ad, _, _, h, _⟩
    · exact h
    · rw [h] at hn; cases hn
/-- A row without elements: there is no room in it. -/
theorem op_build0X (ht : TabOK P tt) {t : TypeId} {e : TI} (he : eti tt t = some e) (hd : Nat.ble (d + 1) n = true) (h : SatOps P l n m all rest ((d, .xsl 0 0 e.size 0 0) :: env) σ Q) :
    SatOps P l n m all (⟨some d, .buildSlice t 0 #[], ty, pos, after, none⟩ :: rest) env σ Q := by
  refine op_gen rfl (by simp) fun F G a w hs => ?_
  obtain ⟨eT', hu, hT⟩ := eti_ok ht he
  have hrun : (execOp a.eval ⟨some d, .buildSlice t 0 #[], ty, pos, after, none⟩).run P w = .ok (.value (.slice (some ⟨w.heap.size, 0, none⟩) 0 0)) (w.alloc (.cells #[] eT')) := by
    have h0 : Instr.fill (fun i => some (i * e.size, e.size)) (Array.map (fun x => (default : Value)) (Array.range 0)) [] = some #[] := by simp [Instr.fill]
    simp [execOp, Instr.buildSlice, underlying, hu, hT.rsize w, newRow, h0]
  exact ⟨_, _, _, _, σ, .inl hrun, (hs.alloc (.cells #[] eT') (.imm 0)).setS (ltn hd) (.xsl _ _ _ _ _ _ (Nat.le_refl _) (.inl rfl)) (.inl rfl), Evol.alloc hs _ _ _ fun _ _ => rfl, h⟩
theorem op_nilX {e : TI} (he : eti tt ty = some e) (hd : Nat.ble (d + 1) n = true) (h : SatOps P l n m all rest ((d, .xsl 0 0 e.size 0 0) :: env) σ Q) :
    SatOps P l n m all (⟨some d, .assign (.const (.slice none 0 0)), ty, pos, after, none⟩ :: rest) env σ Q := by
  refine op_gen rfl (by simp) fun F G a w hs => ?_
  exact ⟨.slice none 0 0, w, G, _, σ, .inl rfl, hs.setS (ltn hd) (.xsl _ _ _ _ _ _ (Nat.le_refl _) (.inl rfl)) (.inl rfl), .refl _ _ _ _, h⟩
/-- A call, by what it makes of the store. -/
theorem op_callR {fo : Operand} {args : Array Operand} {ats : Array TypeId} {f : FuncId} {ps : List PV} {R : PV → Sto → Prop} (hcal : Callable P f) (hc : SatCall P f ps σ R) (hfo : fo = .func f) (hps : passL tt env args.toList ats.toList = ps) (hlen : Nat.ble args.size ats.size = true)
    (htup : ps.all (fun p => !p.isTup) = true) (hd : Nat.ble (d + 1) n = true) (h : ∀ r σ', R r σ' → SatOps P l n m all rest ((d, r) :: env) σ' Q) :
    SatOps P l n m all (⟨some d, .call ⟨.value fo, args, ats⟩, ty, pos, after, none⟩ :: rest) env σ Q :=
  op_call (tt := tt) hcal (as := []) (bs := []) (by rw [hfo]; rfl) (by rw [List.nil_append, List.append_nil, hps]) (Nat.le_of_ble_eq_true hlen) htup hc (ltn hd) h
theorem flat_at {α : Type} [Inhabited α] {f : α → PV} {sz : Nat} (hf : ∀ x, (f x).cells.length = sz) {xs : List α} {rs : List PV} {j : Nat} (hj : j < xs.length) :
    ((flat (xs.map f) ++ rs).drop (j * sz)).take sz = (f (xs.getD j default)).cells := by
  have hz : ∀ e ∈ xs.map f, e.cells.length = sz := fun e he => by obtain ⟨x, _, rfl⟩ := List.mem_map.1 he; exact hf x
  have hl := flat_length hz
  rw [List.length_map] at hl
  have hmul : j * sz + sz ≤ xs.length * sz := by rw [← Nat.succ_mul]; exact Nat.mul_le_mul_right _ hj
  refine List.ext_getElem? fun k => ?_
  rw [List.getElem?_take, List.getElem?_drop]
  have hx : (xs.map f)[j]? = some (f (xs.getD j default)) := by simp [List.getD, hj]
  split
  · rename_i hk
    rw [List.getElem?_append_left (by omega), flat_get hz hx k hk]
  · rename_i hk
    rw [List.getElem?_eq_none (by rw [hf]; omega)]
theorem flat_put {α : Type} {f : α → PV} {sz : Nat} (hf : ∀ x, (f x).cells.length = sz) {xs : List α} {rs : List PV} {j : Nat} {v : α} (hj : j < xs.length) :
    putAt (flat (xs.map f) ++ rs) (j * sz) (f v).cells = flat ((xs.set j v).map f) ++ rs := by
  have hz : ∀ (l : List α), ∀ e ∈ l.map f, e.cells.length = sz := fun l e he => by obtain ⟨x, _, rfl⟩ := List.mem_map.1 he; exact hf x
  have hl := flat_length (hz xs)
  have hl2 := flat_length (hz (xs.set j v))
  rw [List.length_map] at hl hl2
  rw [List.length_set] at hl2
  have hmul : j * sz + sz ≤ xs.length * sz := by rw [← Nat.succ_mul]; exact Nat.mul_le_mul_right _ hj
  obtain ⟨q1, q2⟩ := putAt_get (flat (xs.map f) ++ rs) (j * sz) (f v).cells (by rw [hf, List.length_append]; omega)
  refine List.ext_getElem? fun k => ?_
  rw [q2, hf]
  by_cases hk : k < xs.length * sz
  · rw [List.getElem?_append_left (by omega), List.getElem?_append_left (by omega)]
    have hsz : 0 < sz := by
      rcases Nat.eq_zero_or_pos sz with h | h
      · rw [h] at hk; omega
      · exact h
    obtain ⟨i, r, hr, rfl⟩ : ∃ i r, r < sz ∧ k = i * sz + r := ⟨k / sz, k % sz, Nat.mod_lt _ hsz, by rw [Nat.mul_comm]; exact (Nat.div_add_mod k sz).symm⟩
    have hi : i < xs.length := by
      rcases Nat.lt_or_ge i xs.length with h | h
      · exact h
      · have := Nat.mul_le_mul_right sz h; omega
    have h1 : ((xs.set j v).map f)[i]? = some (f (if j = i then v else xs[i])) := by
      rw [List.getElem?_map, List.getElem?_set]
      by_cases e : j = i
      · subst e; simp [hj]
      · simp [e, hi]
    rw [flat_get (hz _) h1 r hr]
    by_cases e : j = i
    · subst e
      rw [if_pos ⟨by omega, by omega⟩, if_pos rfl, Nat.add_sub_cancel_left]
    · rw [if_neg e, if_neg]
      · rw [flat_get (hz _) (i := i) (e := f xs[i]) (by simp [hi]) r hr]
      · rintro ⟨g1, g2⟩
        rcases Nat.lt_or_ge i j with h | h
        · have := Nat.mul_le_mul_right sz (Nat.succ_le_of_lt h); rw [Nat.succ_mul] at this; omega
        · have := Nat.mul_le_mul_right sz (Nat.succ_le_of_lt (Nat.lt_of_le_of_ne h e)); rw [Nat.succ_mul] at this; omega
  · rw [if_neg (by omega), List.getElem?_append_right (by omega), List.getElem?_append_right (by omega), hl, hl2]
/-- An element is read. -/
theorem lk_loadV {α : Type} [Inhabited α] (f : α → PV) (ht : TabOK P tt) {t : TypeId} {x : Operand} {i j sz : Nat} {ti : TI} {xs : List α} {rs : List PV} (hx : opv tt env t x = .ptr i (0 + j * sz)) (hti : tl tt t = some ti) (hsz : Nat.beq ti.size sz = true) (hagg : aggD ti.desc = true)
    (hi : σ[i]? = some (.cells (flat (xs.map f) ++ rs))) (hf : ∀ x, (f x).cells.length = sz) (hS : ∀ x, ((f x).cells.map shr1).all PV.isS = true) (hfa : ∀ x, PV.agg ((f x).cells.map shr1) = f x) (hlt : j < xs.length) :
    LookAt P n m env σ ⟨dd, .load t x, ty, pos, after, g⟩ (f (xs.getD j default)) := by
  rw [← hfa]
  have hsz := Nat.eq_of_beq_eq_true hsz
  have hz : ∀ e ∈ xs.map f, e.cells.length = sz := fun e he => by obtain ⟨x, _, rfl⟩ := List.mem_map.1 he; exact hf x
  have hl := flat_length hz
  rw [List.length_map] at hl
  have hmul : j * sz + sz ≤ xs.length * sz := by rw [← Nat.succ_mul]; exact Nat.mul_le_mul_right _ hlt
  refine lk_loadB ht hx hti hi (c := 0 + j * sz + ti.size ≤ (flat (xs.map f) ++ rs).length) ?_ (by rw [List.length_append]; omega)
  unfold loadB
  rw [hagg, hsz, Nat.zero_add, flat_at hf hlt, hS]
/-- An element is written. -/
theorem op_storeV {α : Type} (f : α → PV) (ht : TabOK P tt) {t : TypeId} {x y : Operand} {i j sz : Nat} {ti : TI} {xs : List α} {rs : List PV} {v : α} (hx : opv tt env t x = .ptr i (0 + j * sz)) (hti : tl tt t = some ti) (hsz : Nat.beq ti.size sz = true)
    (hi : σ[i]? = some (.cells (flat (xs.map f) ++ rs))) (hf : ∀ x, (f x).cells.length = sz) (hy : opv tt env t y = f v) (hS : (f v).isS = true) (h1 : (f v).cells.all PV.one = true) (hlt : j < xs.length)
    (h : SatOps P l n m all rest env (σ.set i (.cells (flat ((xs.set j v).map f) ++ rs))) Q) : SatOps P l n m all (⟨none, .store t x y, ty, pos, after, none⟩ :: rest) env σ Q := by
  have hsz := Nat.eq_of_beq_eq_true hsz
  have hz : ∀ e ∈ xs.map f, e.cells.length = sz := fun e he => by obtain ⟨x, _, rfl⟩ := List.mem_map.1 he; exact hf x
  have hl := flat_length hz
  rw [List.length_map] at hl
  have hmul : j * sz + sz ≤ xs.length * sz := by rw [← Nat.succ_mul]; exact Nat.mul_le_mul_right _ hlt
  refine op_storeB ht hx hti hi hy hS (by rw [hf, hsz]) h1 (by rw [List.length_append]; omega) ?_
  rw [Nat.zero_add, flat_put hf hlt]; exact h
end
end Go.Proofs.Ytflgoabdgibphaa.Pv
end
section
/- The rules for rows of known capacity, in the form in which the walk uses them. -/
namespace Go.Proofs.Ytflgoabdgibphaa.Pv
open Go
set_option linter.unusedVariables false
set_option linter.unusedSimpArgs false
/-- The rest of a row's room. -/
abbrev room (d : Nat) : List PV := List.replicate d .dead
theorem putAt_mid : ∀ (A B C B' : List PV), B'.length = B.length → putAt (A ++ B ++ C) A.length B' = A ++ B' ++ C
  | [], B, C, B', h => by
    simp only [List.nil_append, List.length_nil]
    induction B generalizing B' with
    | nil => rw [List.length_eq_zero_iff.1 h]; exact putAt_nil _ _
    | cons b B ih =>
      cases B' with
      | nil => simp at h
      | cons b' B' =>
        simp only [List.length_cons, Nat.add_right_cancel_iff] at h
        simp only [List.cons_append, putAt, ih B' h]
  | a :: A, B, C, B', h => by
    cases B' with
    | nil =>
      have : B = [] := List.length_eq_zero_iff.1 h.symm
      subst this; exact putAt_nil _ _
    | cons b' B' =>
      simp only [List.cons_append, List.length_cons, putAt]
      rw [← putAt_mid A B C (b' :: B') h]
/-- .. where the parts are told. -/
theorem putAt_eq {l A B C B' : List PV} {o : Nat} (hl : l = A ++ B ++ C) (ho : o = A.length) (h : B'.length = B.length) : putAt l o B' = A ++ B' ++ C := by rw [hl, ho]; exact putAt_mid A B C B' h
theorem room_add (a b : Nat) : room (a + b) = room a ++ room b := by rw [room, room, room, List.replicate_append_replicate]
/-- Something put in between. -/
def insI {α : Type} (xs : List α) (i : Nat) (v : α) : List α := xs.take i ++ v :: xs.drop i
theorem insI_len {α : Type} (xs : List α) (i : Nat) (v : α) : (insI xs i v).length = xs.length + 1 := by simp [insI]; omega
section
variable {α : Type} {f : α → PV} {sz : Nat}
theorem fl_len (hf : ∀ x, (f x).cells.length = sz) (xs : List α) : (flat (xs.map f)).length = xs.length * sz := by
  have := flat_length (es := xs.map f) (sz := sz) (fun e he => by obtain ⟨x, _, rfl⟩ := List.mem_map.1 he; exact hf x)
  rw [this, List.length_map]
theorem fl_app (xs ys : List α) : flat ((xs ++ ys).map f) = flat (xs.map f) ++ flat (ys.map f) := by rw [List.map_append, flat_append]
theorem fl_split (xs : List α) (i : Nat) : flat (xs.map f) = flat ((xs.take i).map f) ++ flat ((xs.drop i).map f) := by rw [← fl_app, List.take_append_drop]
theorem fl_one (v : α) : flat ([v].map f) = (f v).cells := by simp [flat]
theorem fl_take (hf : ∀ x, (f x).cells.length = sz) (xs : List α) (i : Nat) : (flat (xs.map f)).take (i * sz) = flat ((xs.take i).map f) := by
  rw [List.map_take, flat_take fun e he => by obtain ⟨x, _, rfl⟩ := List.mem_map.1 he; exact hf x]
theorem fl_drop (hf : ∀ x, (f x).cells.length = sz) (xs : List α) (i : Nat) : (flat (xs.map f)).drop (i * sz) = flat ((xs.drop i).map f) := by
  rw [List.map_drop, flat_drop fun e he => by obtain ⟨x, _, rfl⟩ := List.mem_map.1 he; exact hf x]
theorem room_succ {a b : Nat} (h : a = b + 1) : room (a * sz) = room sz ++ room (b * sz) := by rw [← room_add, h, Nat.succ_mul, Nat.add_comm]
theorem room_plus {a b c : Nat} (h : a = b + c) : room (a * sz) = room (b * sz) ++ room (c * sz) := by rw [← room_add, h, Nat.add_mul]
theorem fl_ins (xs : List α) (i : Nat) (v : α) : flat ((insI xs i v).map f) = flat ((xs.take i).map f) ++ flat ([v].map f) ++ flat ((xs.drop i).map f) := by
  rw [insI, show v :: xs.drop i = [v] ++ xs.drop i from rfl, ← List.append_assoc, fl_app, fl_app]
theorem fl_vlen (hf : ∀ x, (f x).cells.length = sz) (v : α) : (flat ([v].map f)).length = sz := by rw [fl_one, hf]
theorem room_len (d : Nat) : (room d).length = d := List.length_replicate
/-- At the end, where there is room. -/
theorem put_end (hf : ∀ x, (f x).cells.length = sz) {xs : List α} {v : α} {c : Nat} (hc : xs.length + 1 ≤ c) :
    putAt (flat (xs.map f) ++ room ((c - xs.length) * sz)) (0 + xs.length * sz) (flat ([v].map f)) = flat ((insI xs xs.length v).map f) ++ room ((c - (xs.length + 1)) * sz) := by
  have e1 : putAt (flat (xs.map f) ++ room ((c - xs.length) * sz)) (0 + xs.length * sz) (flat ([v].map f)) = flat (xs.map f) ++ flat ([v].map f) ++ room ((c - (xs.length + 1)) * sz) :=
    putAt_eq (B := room sz) (by rw [room_succ (show c - xs.length = (c - (xs.length + 1)) + 1 by omega), List.append_assoc]) (by rw [fl_len hf]; omega) (by rw [fl_vlen hf, room_len])
  rw [e1, fl_ins, List.take_length, List.drop_length, List.map_nil]
  simp [flat]
/-- In a new row. -/
theorem put_new (hf : ∀ x, (f x).cells.length = sz) {xs : List α} {v : α} {c i : Nat} (hi : i < xs.length) (hc : xs.length + 1 ≤ c) :
    putAt (putAt (flat ((xs.take i).map f) ++ room ((c - i) * sz)) (i * sz) (flat ([v].map f))) ((i + 1) * sz) (flat ((xs.drop i).map f)) = flat ((insI xs i v).map f) ++ room ((c - (xs.length + 1)) * sz) := by
  have hl : (flat ((xs.take i).map f)).length = i * sz := by rw [fl_len hf, List.length_take, Nat.min_eq_left (by omega)]
  have e1 : putAt (flat ((xs.take i).map f) ++ room ((c - i) * sz)) (i * sz) (flat ([v].map f)) = flat ((xs.take i).map f) ++ flat ([v].map f) ++ room ((c - (i + 1)) * sz) :=
    putAt_eq (B := room sz) (by rw [room_succ (show c - i = (c - (i + 1)) + 1 by omega), List.append_assoc]) (by rw [hl]) (by rw [fl_vlen hf, room_len])
  have e2 : putAt (flat ((xs.take i).map f) ++ flat ([v].map f) ++ room ((c - (i + 1)) * sz)) ((i + 1) * sz) (flat ((xs.drop i).map f)) = flat ((xs.take i).map f) ++ flat ([v].map f) ++ flat ((xs.drop i).map f) ++ room ((c - (xs.length + 1)) * sz) :=
    putAt_eq (B := room ((xs.length - i) * sz)) (by rw [room_plus (show c - (i + 1) = (xs.length - i) + (c - (xs.length + 1)) by omega), List.append_assoc (_ ++ _)]) (by rw [List.length_append, hl, fl_vlen hf, Nat.succ_mul]) (by rw [fl_len hf, List.length_drop, room_len])
  rw [e1, e2, fl_ins]
/-- In its place. -/
theorem put_in (hf : ∀ x, (f x).cells.length = sz) {xs : List α} {v : α} {c i : Nat} (hi : i < xs.length) (hc : xs.length + 1 ≤ c) :
    putAt (putAt (flat (xs.map f) ++ room ((c - xs.length) * sz)) ((i + 1) * sz) (flat ((xs.drop i).map f))) (i * sz) (flat ([v].map f)) = flat ((insI xs i v).map f) ++ room ((c - (xs.length + 1)) * sz) := by
  have hl : ∀ j, j ≤ xs.length → (flat ((xs.take j).map f)).length = j * sz := fun j hj => by rw [fl_len hf, List.length_take, Nat.min_eq_left hj]
  have hs : xs.take (i + 1) = xs.take i ++ [xs[i]] := List.take_succ_eq_append_getElem hi
  have e1 : putAt (flat (xs.map f) ++ room ((c - xs.length) * sz)) ((i + 1) * sz) (flat ((xs.drop i).map f)) = flat ((xs.take (i + 1)).map f) ++ flat ((xs.drop i).map f) ++ room ((c - (xs.length + 1)) * sz) :=
    putAt_eq (B := flat ((xs.drop (i + 1)).map f) ++ room sz) (by rw [fl_split xs (i + 1), room_succ (show c - xs.length = (c - (xs.length + 1)) + 1 by omega)]; simp only [List.append_assoc]) (by rw [hl _ hi])
      (by rw [fl_len hf, List.length_append, fl_len hf, List.length_drop, List.length_drop, room_len, ← Nat.succ_mul]; congr 1; omega)
  have e2 : putAt (flat ((xs.take i).map f) ++ flat ([xs[i]].map f) ++ (flat ((xs.drop i).map f) ++ room ((c - (xs.length + 1)) * sz))) (i * sz) (flat ([v].map f)) = flat ((xs.take i).map f) ++ flat ([v].map f) ++ (flat ((xs.drop i).map f) ++ room ((c - (xs.length + 1)) * sz)) :=
    putAt_eq rfl (by rw [hl _ (by omega)]) (by rw [fl_vlen hf, fl_vlen hf])
  rw [e1, hs, fl_app, List.append_assoc _ (flat ((xs.drop i).map f)), e2, fl_ins]
  simp only [List.append_assoc]
end
theorem stoOK_app {σ s : Sto} (h : StoOK σ) (hs : ∀ e ∈ s, e.lt (σ.length + s.length)) : StoOK (σ ++ s) := by
  intro i e' hi
  rw [List.length_append]
  by_cases hlt : i < σ.length
  · rw [List.getElem?_append_left hlt] at hi
    have h1 := h i e' hi
    cases e' with
    | cells cs => simp only [Ent.lt] at h1 ⊢; rw [ltAll_iff] at h1 ⊢; exact fun v hv => lt_mono (Nat.le_add_right _ _) (h1 v hv)
    | gone => trivial
    | loop x y z u => exact fun t => lt_mono (Nat.le_add_right _ _) (h1 t)
  · rw [List.getElem?_append_right (by omega)] at hi
    exact hs e' (List.mem_of_getElem? hi)
/-- A round's end: what lies behind the first n boxes is nobody's. -/
theorem loopD_end {m : Nat} {E : Env} {σ s0 s : Sto} (n : Nat) (h : s.take n = s0) (hm : m ≤ (σ ++ s0).length) (hst : StoOK (σ ++ s0)) (he : ∀ t, (look E t).lt (σ ++ s0).length) : ∃ ex, σ ++ s = (σ ++ s0) ++ ex ∧ DropOK m E (σ ++ s0) ex :=
  ⟨s.drop n, by rw [List.append_assoc, ← h, List.take_append_drop], .inr ⟨hm, hst, he⟩⟩
theorem getD_memL {α : Type} [Inhabited α] {xs : List α} {i : Nat} (h : i < xs.length) : xs.getD i default ∈ xs := by simp [List.getD, h]
theorem mem_flat {es : List PV} {c : PV} (h : c ∈ flat es) : ∃ e ∈ es, c ∈ e.cells := by
  induction es with
  | nil => simp [flat] at h
  | cons e r ih =>
    simp only [flat, List.mem_append] at h
    rcases h with h | h
    · exact ⟨e, List.mem_cons_self, h⟩
    · obtain ⟨e', h1, h2⟩ := ih h; exact ⟨e', List.mem_cons_of_mem _ h1, h2⟩
theorem pl_cells {p c : PV} (hp : p.pl = true) (h : c ∈ p.cells) : c.pl = true := by
  cases p with
  | agg cs => exact plL_iff.1 hp c h
  | _ => first | (have : c = _ := List.mem_singleton.1 h; rw [this]; exact hp) | cases hp
theorem flat_pl {α : Type} {f : α → PV} (hp : ∀ x, (f x).pl = true) {xs : List α} : ∀ c ∈ flat (xs.map f), c.pl = true := by
  intro c hc
  obtain ⟨e, he, hc⟩ := mem_flat hc
  obtain ⟨x, _, rfl⟩ := List.mem_map.1 he
  exact pl_cells (hp x) hc
theorem flat_lt {α : Type} {f : α → PV} (hp : ∀ x, (f x).pl = true) (xs : List α) (d k : Nat) : (Ent.cells (flat (xs.map f) ++ room d)).lt k := by
  simp only [Ent.lt]
  rw [ltAll_iff]
  intro v hv
  rcases List.mem_append.1 hv with h | h
  · exact pl_lt (flat_pl hp v h) k
  · rw [List.eq_of_mem_replicate h]; trivial
/-- A part of such a row, to copy from. -/
theorem srcQ_row {α : Type} {f : α → PV} {sz : Nat} (hf : ∀ x, (f x).cells.length = sz) (hp : ∀ x, (f x).pl = true) {σ : Sto} {xs : List α} {rs : List PV} {k i q len cap : Nat} (hk : σ[k]? = some (.cells (flat (xs.map f) ++ rs))) (hq : q ≤ len) (hle : i + q ≤ xs.length) :
    SrcQ σ sz (.xsl k (i * sz) sz len cap) len q (flat (((xs.drop i).take q).map f)) := by
  have hl := fl_len hf xs
  have hmul : i * sz + q * sz ≤ xs.length * sz := by rw [← Nat.add_mul]; exact Nat.mul_le_mul_right _ hle
  have e : ((flat (xs.map f) ++ rs).drop (i * sz)).take (q * sz) = flat (((xs.drop i).take q).map f) := by
    rw [List.drop_append_of_le_length (by omega), List.take_append_of_le_length (by rw [List.length_drop]; omega), fl_drop hf, fl_take hf]
  rw [← e]
  refine .row k (i * sz) len q cap _ hk hq (by rw [List.length_append]; omega) ?_
  rw [e, List.all_eq_true]
  exact fun c hc => pl_isS (flat_pl hp c hc)
theorem one_cells {p : PV} (h : p.cells.all PV.one = true) {c : PV} (hc : c ∈ p.cells) : c.one = true := List.all_eq_true.1 h c hc
theorem fl_all_one {α : Type} {f : α → PV} (h : ∀ x, (f x).cells.all PV.one = true) (xs : List α) : (flat (xs.map f)).all PV.one = true := by
  rw [List.all_eq_true]
  intro c hc
  obtain ⟨e, he, hc⟩ := mem_flat hc
  obtain ⟨x, _, rfl⟩ := List.mem_map.1 he
  exact one_cells (h x) hc
theorem stoOK_gone {σ : Sto} (h : StoOK σ) (k : Nat) : StoOK (σ.set k .gone) := by
  intro i e hi
  rw [List.length_set]
  rw [List.getElem?_set] at hi
  split at hi
  · split at hi
    · cases hi; trivial
    · cases hi
  · exact h i e hi
theorem set_last {σ : Sto} {e e' : Ent} : (σ ++ [e]).set σ.length e' = σ ++ [e'] := by rw [List.set_append_right _ _ (Nat.le_refl _), Nat.sub_self]; rfl
theorem get_last {σ : Sto} {e : Ent} : (σ ++ [e])[σ.length]? = some e := by simp
theorem set_old {σ r : Sto} {k : Nat} {e : Ent} (hk : k < σ.length) : (σ ++ r).set k e = σ.set k e ++ r := List.set_append_left _ _ hk
theorem get_old {σ r : Sto} {k : Nat} {e : Ent} (hk : σ[k]? = some e) : (σ ++ r)[k]? = some e := getL hk
theorem get_set {σ : Sto} {k : Nat} {e : Ent} (hk : k < σ.length) : (σ.set k e)[k]? = some e := by simp [hk]
section
variable {P : Program} {l : Option Nat} {tt : TT} {n m : Nat} {all : Array Oper} {rest : List Oper} {env : Env} {τ ex : Sto} {Q : Post} {d : Nat} {dd : Option Nat} {ty : TypeId} {pos : String} {after : Array Edge} {g : Option (Nat × Bool)}
theorem fit_of {e : TI} {k : Nat} (hB : Nat.ble e.bytes 4095 = true) (h : k ≤ 34359738368) : k * (e.bytes + 1) ≤ 140737488355328 := by
  have h1 := Nat.le_of_ble_eq_true hB
  exact Nat.le_trans (Nat.mul_le_mul h (Nat.succ_le_succ h1)) (by decide)
/-- Nothing is appended. -/
theorem op_append0 {σ : Sto} (ht : TabOK P tt) {tS tX : TypeId} {x y : Operand} {e iX : TI} {eX i off sz len cap : Nat} {q : PV} (he : eti tt tS = some e) (hsz : Nat.beq e.size sz = true) (hX : tl tt tX = some iX) (hXi : iX.desc = .slice eX)
    (hx : opv tt env tS x = .xsl i off sz len cap) (hq : opv tt env tX y = q) (hy : SrcR σ sz q 0 []) (hd : Nat.ble (d + 1) n = true)
    (h : SatOps P l n m all rest ((d, .xsl i off sz len cap) :: env) σ Q) :
    SatOps P l n m all (⟨some d, .call ⟨.builtin .append, #[x, y], #[tS, tX]⟩, ty, pos, after, none⟩ :: rest) env σ Q := by
  refine op_gen rfl (by simp) fun F G a w hs => ?_
  have hsz := Nat.eq_of_beq_eq_true hsz
  have hxo := opv_ok hs tt tS x
  have hxl := opv_lt hs tt tS x
  have hyo := opv_ok hs tt tX y
  rw [hx] at hxo hxl
  rw [hq] at hyo
  obtain ⟨ad, ex', c1, c3⟩ := (hxo.toS rfl).xslv
  obtain ⟨eT, hu, hT⟩ := eti_ok ht he
  subst hsz
  obtain ⟨r1, r2, r3⟩ := srcR_run (P := P) hs hyo hy
  obtain ⟨news, r3, r3D, r4, r5⟩ := r3 0 (Nat.le_refl _)
  have hn : news = #[] := Array.eq_empty_of_size_eq_zero (by rw [r4, Nat.zero_mul])
  subst hn
  have hin : (Builtin.append_ #[tS, tX] ty #[.slice ad len cap, a.eval y]).run P w = .ok (.slice ad len cap) w := by
    have hX' := (ht _ _ hX).und
    rw [hXi] at hX'
    have hsize : ∀ w', (sizeOf eT).run P w' = .ok e.size w' := hT.rsize
    simp only [Builtin.append_, List.getElem?_toArray, List.getElem?_cons_zero, List.getElem?_cons_succ, Sem.run_bind, underlying, hu, hX', run_program, Result.andThen_ok, Sem.run_pure, hsize, r1, Nat.add_zero, c1, if_true, r3, Bool.false_eq_true, if_false, Bool.not_false]
    cases ad <;> simp [storeCells]
  exact ⟨_, w, G, _, _, .inl (run_app (by rw [ex']; exact hin)), hs.setS (ltn hd) (.xsl _ _ _ _ _ _ c1 c3) hxl, .refl _ _ _ _, h⟩
theorem ops_freezeX {os : List Oper} {k : Nat} {cs rs : List PV} (E' : Env) (ex' : Sto) (hi : ex[k]? = some (.cells (cs ++ rs))) (hpl : ∀ c ∈ cs, c.pl = true) (he : FrzL (τ.length + k) cs E' env) (hσ : FrzS (τ.length + k) cs ex' (ex.set k .gone))
    (h : SatOps P l n m all os E' (τ ++ ex') Q) : SatOps P l n m all os env (τ ++ ex) Q :=
  ops_freeze E' (τ ++ ex') ((getX k).trans hi) hpl he (by rw [setX]; exact hσ.app τ) h
theorem op_storeVX {α : Type} (f : α → PV) (ht : TabOK P tt) {t : TypeId} {x y : Operand} {k j sz : Nat} {ti : TI} {xs : List α} {rs : List PV} {v : α} (hx : opv tt env t x = .ptr (τ.length + k) (0 + j * sz)) (hti : tl tt t = some ti) (hsz : Nat.beq ti.size sz = true)
    (hi : ex[k]? = some (.cells (flat (xs.map f) ++ rs))) (hf : ∀ x, (f x).cells.length = sz) (hy : opv tt env t y = f v) (hS : (f v).isS = true) (h1 : (f v).cells.all PV.one = true) (hlt : j < xs.length)
    (h : SatOps P l n m all rest env (τ ++ ex.set k (.cells (flat ((xs.set j v).map f) ++ rs))) Q) : SatOps P l n m all (⟨none, .store t x y, ty, pos, after, none⟩ :: rest) env (τ ++ ex) Q :=
  op_storeV f ht hx hti hsz ((getX k).trans hi) hf hy hS h1 hlt (by rw [setX]; exact h)
end
end Go.Proofs.Ytflgoabdgibphaa.Pv
end
section
/- Regions that draw their order, one of the steps turning the store (it takes what a cell owns). -/
namespace Go.Proofs.Ytflgoabdgibphaa.Pv
open Go
set_option linter.unusedVariables false
set_option linter.unusedSimpArgs false
section
variable {P : Program} {l : Option Nat} {n m : Nat} {σ0 σ1 : Sto} {Q : Post}
/-- A step that turns the store. -/
structure StepL (P : Program) (l : Option Nat) (n m : Nat) (all : Array Oper) (env : Env) (σ0 σ1 : Sto) (o : Oper) (p : PV) : Prop where
  go : ∀ (env0 : Env), (∀ t ∈ readsOf all o, look env0 t = look env t) → ∀ F G a w, Sim n m F G env0 σ0 a w → ∀ (i : Nat) (K : Act → World → Prop) (Q' : Exit → Act → World → Prop), all[i]? = some o →
    (∀ a' w' G', Sim n m F G' ((o.dst.getD 1000000, p) :: env0) σ1 a' w' → Evol m F G w G' w' → K a' w') → wpOpIn (Wd l) 0 P all Q' i K a w
/-- Is the i-th bound to be ahead of the j-th, in whatever order (along k edges at most)? -/
def befN (all : Array Oper) : Nat → Nat → Nat → Bool
  | 0, _, _ => false
  | k + 1, j, i => match all[j]? with
    | some o => o.after.any fun e => Region.binds .any e && (Nat.beq e.on i || befN all k e.on i)
    | none => false
/-- Is one ahead of the j-th in whatever order, or behind it? -/
def befJ (all : Array Oper) (j i : Nat) : Bool := befN all 4 j i
def aftJ (all : Array Oper) (j i : Nat) : Bool := befN all 4 i j
/-- The steps: the one at j (counted from i on) turns the store, the others leave it as it is, ahead of that and behind it. -/
def DrawL (P : Program) (l : Option Nat) (n m : Nat) (all : Array Oper) (j : Nat) (σ0 σ1 : Sto) : Nat → Env → List Oper → List PV → Prop
  | _, _, [], [] => True
  | i, env, o :: os, p :: ps => (if i = j then StepL P l n m all env σ0 σ1 o p else (aftJ all j i = false → StepC P l n m all env σ0 o p) ∧ (befJ all j i = false → StepC P l n m all env σ1 o p)) ∧ DrawL P l n m all j σ0 σ1 (i + 1) ((o.dst.getD 1000000, p) :: env) os ps
  | _, _, _, _ => False
/-- The walk through such a region, in the text's order: K what comes behind. -/
structure DrawE (P : Program) (l : Option Nat) (n m : Nat) (all : Array Oper) (j : Nat) (σ0 σ1 : Sto) (i : Nat) (env : Env) (ops : List Oper) (K : Env → Prop) : Prop where
  go : ∃ ps, DrawL P l n m all j σ0 σ1 i env ops ps ∧ K (drawEnv env ops ps)
end
section
variable {P : Program} {l : Option Nat} {tt : TT} {n m : Nat} {all : Array Oper} {env : Env} {σ0 σ1 : Sto} {d : Nat} {op : Op} {ty : TypeId} {pos : String} {after : Array Edge} {os : List Oper} {K : Env → Prop} {p : PV} {i j : Nat}
end
end Go.Proofs.Ytflgoabdgibphaa.Pv
end
section
/- Struct values whose nil slices are known to be nil; stored, they are the box's own. -/
namespace Go.Proofs.Ytflgoabdgibphaa.Pv
open Go
set_option linter.unusedVariables false
set_option linter.unusedSimpArgs false
def nils0 : PV → PV
  | .sl .sh sz [] => .nils sz
  | p => p
def ownN : PV → PV
  | .nils sz => .sl .ow sz []
  | p => p
theorem ownN_rep {G : Gh} {w : World} {v : Value} {c : PV} (h : RepS G w v c) : RepO G w v (ownN c) ∧ ownB v (ownN c) = none := by
  unfold ownN
  split
  · rename_i sz
    have e : v = .slice none 0 0 := by cases h with | pl h => cases h; rfl
    subst e
    exact ⟨.ow none 0 sz [] (.sl0 none 0 sz) (fun h => by simp at h), rfl⟩
  · exact ⟨.sh h, ownB_sh h⟩
theorem ownN_lt {c : PV} {k : Nat} (h : c.lt k) : (ownN c).lt k := by unfold ownN; split <;> first | trivial | exact h
theorem zc1_nils {v : Value} {p : PV} (h : zc1 v p = true) : zc1 v (nils0 p) = true := by
  unfold nils0
  split
  · rename_i sz
    unfold zc1 at h
    split at h <;> first | rfl | (rename_i h'; cases h'; done) | cases h | (simp_all; done) | skip
    all_goals simp_all [zc1]
  · exact h
theorem zcs_nils : ∀ {vs : List Value} {ps : List PV}, zcs vs ps = true → zcs vs (ps.map nils0) = true
  | [], [], _ => rfl
  | v :: r, p :: q, h => by
    simp only [zcs, List.map_cons, Bool.and_eq_true] at h ⊢
    exact ⟨zc1_nils h.1, zcs_nils h.2⟩
  | [], _ :: _, h => by simp [zcs] at h
  | _ :: _, [], h => by simp [zcs] at h
def nilT (i : TI) : TI := ⟨i.desc, i.size, i.bytes, i.zero.map nils0⟩
def nilTT (tt : TT) : TT := tt.map fun x => (x.1, nilT x.2)
theorem tl_nilTT : ∀ (tt : TT) (t : Nat), tl (nilTT tt) t = (tl tt t).map nilT
  | [], _ => rfl
  | (k, v) :: r, t => by
    simp only [nilTT, List.map_cons, tl]
    cases Nat.beq k t with
    | true => rfl
    | false => exact tl_nilTT r t
theorem TabOK.nils {P : Program} {tt : TT} (ht : TabOK P tt) : TabOK P (nilTT tt) := by
  intro t i h
  rw [tl_nilTT, Option.map_eq_some_iff] at h
  obtain ⟨i0, h, rfl⟩ := h
  obtain ⟨h1, h2, info, z, h3, h4, h5, h6, h7⟩ := ht t i0 h
  exact ⟨h1, by simp only [nilT, List.length_map]; exact h2, info, z, h3, h4, h5, h6, zcs_nils h7⟩
section
variable {P : Program} {l : Option Nat} {tt : TT} {n m : Nat} {all : Array Oper} {rest : List Oper} {env : Env} {σ : Sto} {Q : Post} {d : Nat} {ty : TypeId} {pos : String} {after : Array Edge}
/-- A box is written; what is nil in it, is its own. -/
theorem op_storeN (ht : TabOK P tt) {t : TypeId} {x y : Operand} {i off : Nat} {ti : TI} {cs : List PV} {p : PV} (hx : opv tt env t x = .ptr i off) (hti : tl tt t = some ti)
    (hi : σ[i]? = some (.cells cs)) (hy : opv tt env t y = p) (hS : p.isS = true) (hn : p.cells.length = ti.size) (h1 : p.cells.all PV.one = true) (hoff : off + ti.size ≤ cs.length)
    (h : SatOps P l n m all rest env (σ.set i (.cells (putAt cs off (p.cells.map ownN)))) Q) : SatOps P l n m all (⟨none, .store t x y, ty, pos, after, none⟩ :: rest) env σ Q := by
  refine op_gen rfl (by simp) fun F G a w hs => ?_
  have hxo := opv_ok hs tt t x
  rw [hx] at hxo
  have ev := (hxo.toS rfl).ptrv
  have hyo := opv_ok hs tt t y
  have hyl := opv_lt hs tt t y
  rw [hy] at hyo hyl
  obtain ⟨k1, k2⟩ := cells_of_S (hyo.toS hS)
  obtain ⟨hK, hsp, hcell⟩ := hs.sto i _ hi
  have hst := hs.stolt i _ hi
  simp only [Ent.lt] at hst
  have hT := ht _ _ hti
  have hspB := hsp
  obtain ⟨⟨arr, T, fz, a1, a2, a3⟩, hshB, hnfB⟩ := hsp
  have hlen : (a.eval y).cells.toList.length = ti.size := by simp [k1, hn]
  have hthere : ∀ j, j < cs.length → (w.cell? ⟨G.bs i, j, none⟩).isSome = true := fun j hj => by
    obtain ⟨v, hv, _⟩ := hcell j cs[j] (by simp [hj])
    rw [hv]; rfl
  have hrun := run_storeCells_cells (P := P) (G.bs i) off (a.eval y).cells.toList 0 w (fun j hj => by rw [Nat.add_zero]; exact hthere _ (by omega)) (fun j hj => by rw [Nat.add_zero]; exact a3 _ (Nat.zero_le _) (by omega)) (fun v hv => by
    obtain ⟨j, hj, rfl⟩ := List.getElem_of_mem hv
    have hj' : j < p.cells.length := by simp at hj; omega
    have := k2 j (a.eval y).cells.toList[j] p.cells[j] (by simp at hj ⊢) (by simp [hj'])
    exact (RepO.one (.sh this) (List.all_eq_true.1 h1 _ (List.getElem_mem hj'))).1)
  rw [Nat.add_zero] at hrun
  obtain ⟨q1, q2⟩ := putAt_get cs off (p.cells.map ownN) (by rw [List.length_map]; omega)
  have hnew : ∀ j c, (putAt cs off (p.cells.map ownN))[j]? = some c → ∃ v, (w.setCells (G.bs i) off (a.eval y).cells.toList).cell? ⟨G.bs i, j, none⟩ = some v ∧ RepO G w v c ∧ ((off ≤ j ∧ j < off + ti.size ∧ ownB v c = none) ∨ (cs[j]? = some c ∧ w.cell? ⟨G.bs i, j, none⟩ = some v)) := by
    intro j c hc
    rw [q2] at hc
    split at hc
    · rename_i hj
      rw [List.length_map, hn] at hj
      rw [List.getElem?_map, Option.map_eq_some_iff] at hc
      obtain ⟨c0, hc, rfl⟩ := hc
      have hjl : j - off < (a.eval y).cells.toList.length := by omega
      have := World.cell?_setCells_in (G.bs i) (a.eval y).cells.toList off w (fun j hj => hthere _ (by omega)) (j - off) hjl
      rw [show off + (j - off) = j by omega] at this
      have hR := k2 (j - off) (a.eval y).cells.toList[j - off] c0 (by rw [Array.getElem_toList]; exact Array.getElem?_eq_getElem _) hc
      exact ⟨_, this, (ownN_rep hR).1, .inl ⟨hj.1, hj.2, (ownN_rep hR).2⟩⟩
    · rename_i hj
      rw [List.length_map, hn] at hj
      obtain ⟨v, hv, hR⟩ := hcell j c hc
      exact ⟨v, by rw [World.cell?_setCells_out _ _ _ _ _ (fun _ _ => by simp only; omega)]; exact hv, hR, .inr ⟨hc, hv⟩⟩
  obtain ⟨s1, s2, s3, s4⟩ := sc_same (G.bs i) (a.eval y).cells.toList off w
  have hfin := hs.boxSet (cs' := putAt cs off (p.cells.map ownN)) hi s1 (fun b hb => sc_other _ _ _ _ _ hb) (sc_spareB ⟨⟨arr, T, fz, a1, by rw [q1]; exact a2, fun j hj hk => a3 j hj (by omega)⟩, hshB, hnfB⟩ _ _ _) (by
      rw [ltAll_iff]; intro c hc
      obtain ⟨j, hj, rfl⟩ := List.getElem_of_mem hc
      have hc' := q2 j
      rw [List.getElem?_eq_getElem hj] at hc'
      split at hc'
      · rw [List.getElem?_map] at hc'
        obtain ⟨c0, h3, h4⟩ := Option.map_eq_some_iff.1 hc'.symm
        rw [← h4]
        exact ownN_lt (ltAll_iff.1 (cells_lt hyl) _ (List.mem_of_getElem? h3))
      · exact ltAll_iff.1 hst _ (List.mem_of_getElem? hc'.symm)) (fun j c hc => let ⟨v, h1, h2, _⟩ := hnew j c hc; ⟨v, h1, h2⟩) (fun j v c b hv hc hb => by
      obtain ⟨v', h1, _, h3⟩ := hnew j c hc
      rw [hv] at h1; cases h1
      rcases h3 with ⟨_, _, h3⟩ | ⟨h3, h4⟩
      · rw [h3] at hb; cases hb
      · have := ownAt_cell (env := env) (a := a) hi h3 h4 hb
        exact ⟨hs.fr _ b this, fun l' hl' => hs.uniq _ _ b hl' this⟩) (fun j j' v c v' c' b hv hc hb hv' hc' hb' => by
      obtain ⟨u, h1, _, h3⟩ := hnew j c hc
      obtain ⟨u', h1', _, h3'⟩ := hnew j' c' hc'
      rw [hv] at h1; cases h1
      rw [hv'] at h1'; cases h1'
      rcases h3 with ⟨_, _, h3⟩ | ⟨h3, h4⟩
      · rw [h3] at hb; cases hb
      · rcases h3' with ⟨_, _, h3'⟩ | ⟨h3', h4'⟩
        · rw [h3'] at hb'; cases hb'
        · have := hs.uniq _ _ b (ownAt_cell (env := env) (a := a) hi h3 h4 hb) (ownAt_cell (env := env) (a := a) hi h3' h4' hb')
          cases this; rfl)
  refine ⟨undef, _, G, env, _, .inr ⟨?_, rfl⟩, hfin, Evol.boxSet hs hi off _, h⟩
  have hsize : (a.eval y).cells.size = ti.size := by omega
  simp [execOp, ev, Instr.storeAt, Instr.sureAddr, storeVar, hT.rsize w, hsize, hrun]
theorem op_storeNX {τ ex : Sto} (ht : TabOK P tt) {t : TypeId} {x y : Operand} {k off : Nat} {ti : TI} {cs : List PV} {p : PV} (hx : opv tt env t x = .ptr (τ.length + k) off) (hti : tl tt t = some ti)
    (hi : ex[k]? = some (.cells cs)) (hy : opv tt env t y = p) (hS : p.isS = true) (hn : Nat.beq p.cells.length ti.size = true) (h1 : p.cells.all PV.one = true) (hoff : Nat.ble (off + ti.size) cs.length = true)
    (h : SatOps P l n m all rest env (τ ++ ex.set k (.cells (putAt cs off (p.cells.map ownN)))) Q) : SatOps P l n m all (⟨none, .store t x y, ty, pos, after, none⟩ :: rest) env (τ ++ ex) Q := by
  refine op_storeN ht hx hti ((getX k).trans hi) hy hS (Nat.eq_of_beq_eq_true hn) h1 (Nat.le_of_ble_eq_true hoff) ?_
  rw [setX]; exact h
end
end Go.Proofs.Ytflgoabdgibphaa.Pv
end
section
/- A scope in which the run jumps back to a label. -/
namespace Go.Proofs.Ytflgoabdgibphaa.Pv
open Go
set_option linter.unusedVariables false
set_option linter.unusedSimpArgs false
section
variable {P : Program} {F : Fence} {n : Nat} {a : Act} {w : World} {Q : Exit → Act → World → Prop} {b : Frame} {k : List Item} {cs : List Frame}
theorem stepR_scope' {c : Code} : step P (lone (b.atR a (.code (.scope c) :: k)) cs w) = .next (lone (b.atR a (.code c :: .inScope c :: k)) cs w) :=
  step_lone_go (by simp [stepG, stepG.exec, Frame.atR])
theorem stepR_inScope' {c : Code} : step P (lone (b.atR a (.inScope c :: k)) cs w) = .next (lone (b.atR a k) cs w) :=
  step_lone_go (by simp [stepG, stepG.exec, Frame.atR])
theorem wpIn_scope_jumps {c rest : Code} (l : Nat) (J : Act → World → Prop) (μ : Act → World → Nat) (hf : findLabel c l = some rest)
    (first : c.wpIn F n P (Exit.jump l J Q) a w)
    (pass : ∀ a w, J a w → rest.wpIn F n P (Exit.jump l (fun a' w' => J a' w' ∧ μ a' w' < μ a w) Q) a w) : (Code.scope c).wpIn F n P Q a w := by
  intro b k cs hro hb hr
  have h0 : (lone (b.atR a (.code (.scope c) :: k)) cs w).fenced P F := fenced_calm hb hr rfl
  have hg : gotoIn l (.inScope c :: k) = some (.code rest :: .inScope c :: k) := by simp [gotoIn, hf]
  have key : ∀ j a w, μ a w = j → J a w → ∃ e a' w', Q e a' w' ∧ ArrivesIn (Machine.fenced P F) P (lone (b.atR a (.code rest :: .inScope c :: k)) cs w) b k cs e a' w' := by
    intro j
    induction j using Nat.strongRecOn with
    | _ j ih =>
      intro a w hn hJ
      obtain ⟨e, a₁, w₁, hq, harr⟩ := pass a w hJ b (.inScope c :: k) cs hro hb hr
      cases e with
      | normal => exact ⟨.normal, a₁, w₁, hq, StepsIn.trans harr (.one (fenced_calm hb hr rfl) stepR_inScope')⟩
      | exit id => exact ⟨.exit id, a₁, w₁, hq, fun k' hk => harr.1 k' (by simp [exitTo, hk]), fun hr' hk => let ⟨k₁, h1, h2⟩ := harr.2 hr' (by simpa [exitTo] using hk); ⟨k₁, h1, h2⟩⟩
      | goto l' =>
        obtain ⟨rfl, hJ', hlt⟩ := hq
        obtain ⟨e₂, a₂, w₂, hq₂, harr₂⟩ := ih _ (by omega) a₁ w₁ rfl hJ'
        exact ⟨e₂, a₂, w₂, hq₂, .of_steps (harr.1 _ hg) harr₂⟩
      | ret => exact ⟨_, a₁, w₁, hq, harr⟩
      | panic ch => exact ⟨_, a₁, w₁, hq, harr⟩
      | outgrown => exact ⟨_, a₁, w₁, hq, harr⟩
  obtain ⟨e, a₁, w₁, hq, harr⟩ := first b (.inScope c :: k) cs hro hb hr
  cases e with
  | normal => exact ⟨.normal, a₁, w₁, hq, .head h0 stepR_scope' (StepsIn.trans harr (.one (fenced_calm hb hr rfl) stepR_inScope'))⟩
  | exit id => exact ⟨.exit id, a₁, w₁, hq, fun k' hk => .head h0 stepR_scope' (harr.1 k' (by simp [exitTo, hk])), fun hr' hk => let ⟨k₁, h1, h2⟩ := harr.2 hr' (by simpa [exitTo] using hk); ⟨k₁, h1, .head h0 stepR_scope' h2⟩⟩
  | goto l' =>
    obtain ⟨rfl, hJ'⟩ := hq
    obtain ⟨e₂, a₂, w₂, hq₂, harr₂⟩ := key _ a₁ w₁ rfl hJ'
    exact ⟨e₂, a₂, w₂, hq₂, .of_steps (.head h0 stepR_scope' (harr.1 _ hg)) harr₂⟩
  | ret => exact ⟨_, a₁, w₁, hq, .of_steps (.one h0 stepR_scope') harr⟩
  | panic ch => exact ⟨_, a₁, w₁, hq, .of_steps (.one h0 stepR_scope') harr⟩
  | outgrown => exact ⟨_, a₁, w₁, hq, .of_steps (.one h0 stepR_scope') harr⟩
end
/-- As Q; by a goto to the label: J. -/
def jump0 (lb : Nat) (J : Env → Sto → Prop) (Q : Post) : Post
  | .goto l', env, σ => l' = lb ∧ J env σ
  | e, env, σ => Q e env σ
structure jumpTo (lb : Nat) (J : Env → Sto → Prop) (Q : Post) (e : Exit) (env : Env) (σ : Sto) : Prop where
  go : jump0 lb J Q e env σ
section
variable {P : Program} {l : Option Nat} {n m : Nat} {env : Env} {σ : Sto} {Q : Post} {lb : Nat} {J : Env → Sto → Prop}
theorem pj_ret (h : Q .ret env σ) : jumpTo lb J Q .ret env σ := ⟨h⟩
theorem pj_goto (h : J env σ) : jumpTo lb J Q (.goto lb) env σ := ⟨⟨rfl, h⟩⟩
theorem sat_scope0 {c rest : Code} (lb : Nat) (hf : findLabel c lb = some rest) (I : Nat → Env → Sto → Prop)
    (h0 : Sat P l n m c env σ (jumpTo lb (fun env' σ' => ∃ k, I k env' σ') Q))
    (hr : ∀ k env σ, I k env σ → Sat P l n m rest env σ (jumpTo lb (fun env' σ' => ∃ k', k' < k ∧ I k' env' σ') Q)) : Sat P l n m (.scope c) env σ Q := by
  refine ⟨fun F G a w hs => ?_⟩
  let J : Nat → Act → World → Prop := fun k a' w' => ∃ G' env' σ', I k env' σ' ∧ Sim n m F G' env' σ' a' w' ∧ Evol m F G w G' w'
  refine wpIn_scope_jumps lb (fun a' w' => ∃ k, J k a' w') (fun a' w' => leastOf fun k => J k a' w') hf (wpIn_mono (h0.go F G a w hs) fun e a' w' q => ?_) fun a' w' hI => ?_
  · obtain ⟨G2, env2, σ2, q, hs2, hv2⟩ := q
    have q := q.go
    cases e with
    | goto l' =>
      obtain ⟨rfl, k, hk⟩ := q
      exact ⟨rfl, k, G2, env2, σ2, hk, hs2, hv2⟩
    | _ => exact ⟨G2, env2, σ2, q, hs2, hv2⟩
  · obtain ⟨G', env', σ', hi, hs', hv⟩ := leastOf_spec hI
    refine wpIn_mono ((hr _ _ _ hi).go F G' a' w' hs') fun e a'' w'' q => ?_
    obtain ⟨G2, env2, σ2, q, hs2, hv2⟩ := q
    have q := q.go
    cases e with
    | goto l' =>
      obtain ⟨rfl, k', hk', hi'⟩ := q
      have hI' : ∃ k, J k a'' w'' := ⟨k', G2, env2, σ2, hi', hs2, hv.trans hv2⟩
      exact ⟨rfl, hI', Nat.lt_of_le_of_lt (leastOf_le (p := fun k => J k a'' w'') ⟨G2, env2, σ2, hi', hs2, hv.trans hv2⟩) hk'⟩
    | _ => exact ⟨G2, env2, σ2, q, hs2, hv.trans hv2⟩
/-- A scope with one label jumped back to, by an invariant over some data. -/
theorem sat_scope {α : Type} {c rest : Code} (lb : Nat) (hf : findLabel c lb = some rest) (E : α → Env) (S : α → Sto) (I : α → Prop) (μ : α → Nat)
    (h0 : Sat P l n m c env σ (jumpTo lb (fun env' σ' => ∃ x, I x ∧ WkL (E x) env' ∧ S x = σ') Q))
    (hr : ∀ x, I x → Sat P l n m rest (E x) (S x) (jumpTo lb (fun env' σ' => ∃ x', I x' ∧ μ x' < μ x ∧ WkL (E x') env' ∧ S x' = σ') Q)) : Sat P l n m (.scope c) env σ Q := by
  refine sat_scope0 lb hf (fun k e s => ∃ x, I x ∧ μ x = k ∧ (∀ t, Wk (look (E x) t) (look e t)) ∧ S x = s) (h0.mono fun e env' σ' q => ?_) ?_
  · have q := q.go
    cases e with
    | goto l' =>
      obtain ⟨rfl, x, h1, h2, h3⟩ := q
      exact ⟨⟨rfl, μ x, x, h1, rfl, h2.at, h3⟩⟩
    | _ => exact ⟨q⟩
  · rintro k e s ⟨x, hx, rfl, he, rfl⟩
    refine sat_weaken (E x) he ((hr x hx).mono fun e' env' σ' q => ?_)
    have q := q.go
    cases e' with
    | goto l' =>
      obtain ⟨rfl, x', h1, h2, h3, h4⟩ := q
      exact ⟨⟨rfl, μ x', h2, x', h1, rfl, h3.at, h4⟩⟩
    | _ => exact ⟨q⟩
end
end Go.Proofs.Ytflgoabdgibphaa.Pv
end
section
/- Regions that draw their order: any number of steps turn the store, one behind the other; a step may write more slots than its own (what it takes the ownership of). -/
namespace Go.Proofs.Ytflgoabdgibphaa.Pv
open Go
set_option linter.unusedVariables false
set_option linter.unusedSimpArgs false
abbrev Ws := List (Nat × PV)
/-- What stands ahead of each operation in every order, as bits. -/
def ancL : List Oper → List Nat → List Nat
  | [], acc => acc
  | o :: os, acc => ancL os (acc ++ [o.after.toList.foldl (fun m e => bif Region.binds .any e then m ||| (1 <<< e.on) ||| acc.getD e.on 0 else m) 0])
def ancs (ops : List Oper) : List Nat := ancL ops []
def anc (A : List Nat) (i j : Nat) : Bool := (A.getD i 0).testBit j
structure FactsG (ops : List Oper) (k : Nat) (keys : List (List Nat)) (i : Nat) (o : Oper) : Prop where
  back : ∀ e ∈ o.after.toList, Region.binds .any e = true → e.on < i
  writes : ∀ t ∈ keys.getD i [], ∀ j, j < k → j ≠ i → t ∈ keys.getD j [] → (i < j ∧ anc (ancs ops) j i = true) ∨ (j < i ∧ anc (ancs ops) i j = true)
  reads : ∀ t ∈ readsOf ops.toArray o, ∀ j, j < k → j ≠ i → t ∈ keys.getD j [] → (j < i ∧ anc (ancs ops) i j = true) ∨ (i < j ∧ anc (ancs ops) j i = true)
section
variable {P : Program} {l : Option Nat} {n m : Nat} {Q : Post}
/-- A step of such a region. -/
structure StepG (P : Program) (l : Option Nat) (n m : Nat) (all : Array Oper) (env : Env) (σ0 σ1 : Sto) (o : Oper) (ws : Ws) : Prop where
  go : ∀ (env0 : Env), (∀ t ∈ readsOf all o, look env0 t = look env t) → ∀ F G a w, Sim n m F G env0 σ0 a w → ∀ (i : Nat) (K : Act → World → Prop) (Q' : Exit → Act → World → Prop), all[i]? = some o →
    (∀ a' w' G', Sim n m F G' (ws ++ env0) σ1 a' w' → Evol m F G w G' w' → K a' w') → wpOpIn (Wd l) 0 P all Q' i K a w
/-- May the operation i be carried out at stage a? -/
def stOK (A : List Nat) (js : List Nat) (i a : Nat) : Bool :=
  (List.range js.length).all fun b => (!anc A i (js.getD b 0) || Nat.ble (b + 1) a) && (!anc A (js.getD b 0) i || Nat.ble a b)
def turnAt (js : List Nat) (i : Nat) : Option Nat := (List.range js.length).find? fun b => Nat.beq (js.getD b 0) i
def DrawG (P : Program) (l : Option Nat) (n m : Nat) (all : Array Oper) (A : List Nat) (keys : List (List Nat)) (js : List Nat) (σs : Nat → Sto) : Nat → Env → List Oper → List Ws → Prop
  | _, _, [], [] => True
  | i, env, o :: os, ws :: wss => (ws.map (·.1) = keys.getD i [] ∧ match turnAt js i with
      | some b => StepG P l n m all env (σs b) (σs (b + 1)) o ws
      | none => ∀ a, a ≤ js.length → stOK A js i a = true → StepG P l n m all env (σs a) (σs a) o ws) ∧ DrawG P l n m all A keys js σs (i + 1) (ws ++ env) os wss
  | _, _, _, _ => False
/-- The slots where all have been carried out. -/
def allW : Env → List Ws → Env
  | env, [] => env
  | env, ws :: r => allW (ws ++ env) r
/-- The walk through such a region, in the text's order: K what comes behind. -/
structure DrawH (P : Program) (l : Option Nat) (n m : Nat) (all : Array Oper) (A : List Nat) (keys : List (List Nat)) (js : List Nat) (σs : Nat → Sto) (i : Nat) (env : Env) (ops : List Oper) (K : Env → Prop) : Prop where
  go : ∃ wss, DrawG P l n m all A keys js σs i env ops wss ∧ K (allW env wss)
end
/-- One step, by the rules for one that is carried out in its turn. -/
structure StepO (P : Program) (l : Option Nat) (n m : Nat) (all : Array Oper) (env : Env) (σ0 σ1 : Sto) (o : Oper) (ws : Ws) : Prop where
  g : StepG P l n m all env σ0 σ1 o ws
/-- A step at the other stages. -/
def Oth (A : List Nat) (js : List Nat) (i c : Nat) (p : Sto → Prop) : Nat → List Sto → Prop
  | _, [] => True
  | a, σ :: r => (a = c ∨ stOK A js i a = false ∨ p σ) ∧ Oth A js i c p (a + 1) r
/-- The walk, behind the question whether the next one is carried out at all. -/
structure DrawJ (P : Program) (l : Option Nat) (n m : Nat) (all : Array Oper) (A : List Nat) (keys : List (List Nat)) (js : List Nat) (σs : Nat → Sto) (i : Nat) (env : Env) (ops : List Oper) (K : Env → Prop) : Prop where
  go : DrawH P l n m all A keys js σs i env ops K
section
variable {P : Program} {l : Option Nat} {n m : Nat} {all : Array Oper} {A : List Nat} {keys : List (List Nat)} {js : List Nat} {L : List Sto} {i : Nat} {env : Env} {o : Oper} {os : List Oper} {K : Env → Prop}
theorem Oth.get {p : Sto → Prop} {c : Nat} : ∀ (L : List Sto) (a : Nat), Oth A js i c p a L → ∀ b, b < L.length → stOK A js i (a + b) = true → a + b ≠ c → p (L.getD b [])
  | [], a, _, b, hb, _, _ => by simp at hb
  | σ :: r, a, h, b, hb, hs, hc => by
    cases b with
    | zero =>
      rcases h.1 with h1 | h1 | h1
      · exact absurd h1 hc
      · rw [Nat.add_zero] at hs; rw [hs] at h1; cases h1
      · exact h1
    | succ b =>
      have := Oth.get r (a + 1) h.2 b (by simpa using hb) (by rw [show a + 1 + b = a + (b + 1) by omega]; exact hs) (by omega)
      simpa using this
variable {σs : Nat → Sto} {dst : Option Nat} {op : Op} {ty : TypeId} {pos : String} {after : Array Edge}
end
end Go.Proofs.Ytflgoabdgibphaa.Pv
end
