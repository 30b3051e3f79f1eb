/- The framework of plain values, part 3: what a program's words stand for, step by step. -/
import Derived.Test.YtbhefogimhlkmaaPvM2
import Derived.Laws.Externs
import Derived.Lib.Overlaps
import Derived.ScopeJumps
section
/- A contract of the library that leaves the heap below as it is, as a contract over plain values. -/
namespace Go.Proofs.Ytbhefogimhlkmaa.Pv
open Go
set_option linter.unusedVariables false
set_option linter.unusedSimpArgs false
section
variable {P : Program} {l : Option Nat} {tt : TT} {n m : Nat} {all : Array Oper} {rest : List Oper} {env : Env} {σ : Sto} {Q : Post} {d : Nat} {ty : TypeId} {pos : String} {after : Array Edge}
end
/-- What lies behind a store may be forgotten. -/
def DropOK (m : Nat) (env : Env) (σ ex : Sto) : Prop := ex = [] ∨ (m ≤ σ.length ∧ StoOK σ ∧ ∀ t, (look env t).lt σ.length)
theorem Sim.drop {n m : Nat} {F : Nat → Prop} {G : Gh} {env : Env} {σ ex : Sto} {a : Act} {w : World} (h : Sim n m F G env (σ ++ ex) a w) (hd : DropOK m env σ ex) : Sim n m F G env σ a w := by
  rcases hd with rfl | ⟨h1, h2, h3⟩
  · rw [List.append_nil] at h; exact h
  have hget : ∀ (i : Nat) e, σ[i]? = some e → (σ ++ ex)[i]? = some e := fun i e hi => by
    rw [List.getElem?_append_left (List.getElem?_eq_some_iff.1 hi).1]; exact hi
  have key : ∀ l b, ownAt G env σ a.tmps w l = some b → ownAt G env (σ ++ ex) a.tmps w l = some b := by
    intro l b hl
    cases l with
    | slot t j => exact hl
    | cell i j =>
      simp only [ownAt] at hl ⊢
      cases hi : σ[i]? with
      | none => rw [hi] at hl; cases hl
      | some e => rw [hi] at hl; rw [hget i e hi]; exact hl
  exact ⟨h.size, h.rep, h3, fun i e hi => h.sto i e (hget i e hi), h2, h.kfree, fun i e hi => h.inj i e (hget i e hi), fun l1 l2 b g1 g2 => h.uniq l1 l2 b (key _ _ g1) (key _ _ g2),
    fun l b hl => h.fr l b (key l b hl), h.frlt, h.marks, h.markF, h1⟩
section
variable {P : Program} {l : Option Nat} {n m : Nat} {env : Env} {σ : Sto} {Q : Post}
theorem sat_drop {c : Code} {ex : Sto} (hd : DropOK m env σ ex) (h : Sat P l n m c env σ Q) : Sat P l n m c env (σ ++ ex) Q := ⟨fun F G a w hs => h.go F G a w (hs.drop hd)⟩
/-- A loop whose rounds leave boxes behind that nobody holds. -/
theorem sat_loopD {α : Type} {c : Code} (E : α → Env) (S : α → Sto) (I : α → Prop) (μ : α → Nat) (x0 : α) (h0 : I x0) (hw : WkL (E x0) env) (hS : S x0 = σ)
    (hr : ∀ x, I x → Sat P l n m c (E x) (S x) (andThen (fun env' σ' => ∃ x', I x' ∧ μ x' < μ x ∧ WkL (E x') env' ∧ ∃ ex, σ' = S x' ++ ex ∧ DropOK m (E x') (S x') ex) Q)) : Sat P l n m (.loop c) env σ Q := by
  subst hS
  refine sat_env (E x0) hw (sat_loop (fun k e s => ∃ x, I x ∧ μ x = k ∧ (∀ t, Wk (look (E x) t) (look e t)) ∧ ∃ ex, s = S x ++ ex ∧ DropOK m (E x) (S x) ex) (μ x0) ⟨x0, h0, rfl, fun t => Wk.same _, [], (List.append_nil _).symm, .inl rfl⟩ ?_)
  rintro k e s ⟨x, hx, rfl, he, ex, rfl, hd⟩
  refine sat_weaken (E x) he (sat_drop hd ((hr x hx).mono fun e' env' σ' q => ?_))
  cases e' with
  | normal =>
    obtain ⟨x', h1, h2, h3, h4⟩ := q.go
    exact ⟨⟨μ x', h2, x', h1, rfl, h3.at, h4⟩⟩
  | _ => exact ⟨q.go⟩
end
theorem stoOK_push {σ : Sto} (h : StoOK σ) {e : Ent} (he : e.lt (σ.length + 1)) : StoOK (σ ++ [e]) := by
  intro i e' hi
  rw [List.length_append, List.length_singleton]
  by_cases hlt : i < σ.length
  · rw [List.getElem?_append_left hlt] at hi
    have h1 := h i e' hi
    cases e' with
    | cells cs => simp only [Ent.lt] at h1 ⊢; rw [ltAll_iff] at h1 ⊢; exact fun v hv => lt_mono (Nat.le_succ _) (h1 v hv)
    | gone => trivial
    | loop x y z u => exact fun t => lt_mono (Nat.le_succ _) (h1 t)
  · rw [List.getElem?_append_right (by omega)] at hi
    cases hj : i - σ.length with
    | zero => rw [hj] at hi; cases hi; exact he
    | succ k => rw [hj] at hi; simp at hi
theorem envL_lt : ∀ {env : Env} {k : Nat}, (∀ x ∈ env, x.2.lt k) → ∀ t, (look env t).lt k
  | [], _, _, _ => trivial
  | (u, p) :: r, k, h, t => by
    rw [look_cons]
    split
    · exact h (u, p) List.mem_cons_self
    · exact envL_lt (fun x hx => h x (List.mem_cons_of_mem _ hx)) t
end Go.Proofs.Ytbhefogimhlkmaa.Pv
end
section
/- Regions that draw their order, the first operation taking over what a slot owns. -/
namespace Go.Proofs.Ytbhefogimhlkmaa.Pv
open Go
set_option linter.unusedVariables false
set_option linter.unusedSimpArgs false
section
variable {P : Program} {l : Option Nat} {n m : Nat} {σ : Sto} {Q : Post}
/-- The first of the steps takes over what slot u owns. -/
structure StepM (P : Program) (l : Option Nat) (n m : Nat) (all : Array Oper) (env : Env) (σ : Sto) (u : Nat) (q : PV) (o : Oper) (p : PV) : Prop where
  go : ∀ (env0 : Env), look env0 u = look env u → ∀ F G a w, Sim n m F G env0 σ a w → ∀ (i : Nat) (K : Act → World → Prop) (Q' : Exit → Act → World → Prop), all[i]? = some o →
    (∀ a' w' G', Sim n m F G' ((o.dst.getD 1000000, p) :: (u, q) :: env0) σ a' w' → Evol m F G w G' w' → K a' w') → wpOpIn (Wd l) 0 P all Q' i K a w
end
section
variable {P : Program} {l : Option Nat} {tt : TT} {n m : Nat} {all : Array Oper} {env : Env} {σ : Sto} {d : Nat} {op : Op} {ty : TypeId} {pos : String} {after : Array Edge} {os : List Oper} {K : Env → Prop} {p : PV}
theorem Sim.setTup0 {F : Nat → Prop} {G : Gh} {a : Act} {w : World} (hs : Sim n m F G env σ a w) (hd : d < n) : Sim n m F G ((d, .tup []) :: env) σ (a.put (some d) undef) w :=
  hs.setN hd (.inr (.inr ⟨#[], [], rfl, rfl, rfl, fun j v c h => by simp at h⟩)) trivial
/-- Passed over: what hangs on it is passed over, too. -/
theorem stepC_no {j t : Nat} {want b : Bool} (hj : (all[j]?).bind (·.dst) = some t) (hb : look env t = .bool b) (hw : b = !want) (hd : Nat.ble (d + 1) n = true) : StepC P l n m all env σ ⟨some d, op, ty, pos, after, some (j, want)⟩ (.tup []) := by
  refine ⟨fun env0 hag F G a w hs i K Q' hi hK => ?_⟩
  have hb0 : look env0 t = .bool b := (hag t (by simp [readsOf, hj])).trans hb
  unfold wpOpIn
  simp only [hi]
  rw [if_neg (by simp [Region.wanted, yielded_of hs hj hb0, hw])]
  exact ⟨fun _ _ => trivial, hK _ _ G (hs.setTup0 (ltn hd)) (.refl _ _ _ _)⟩
theorem dd_no2 {j t : Nat} {want b : Bool} (hj : (all[j]?).bind (·.dst) = some t) (hb : look env t = .bool b) (hw : b = !want) (hd : Nat.ble (d + 1) n = true) (h : DrawD P l n m all ((d, .tup []) :: env) σ os K) :
    DrawD P l n m all env σ (⟨some d, op, ty, pos, after, some (j, want)⟩ :: os) K := dd_cons (stepC_no hj hb hw hd) h
end
end Go.Proofs.Ytbhefogimhlkmaa.Pv
end
section
/- Rows of which the capacity is known, in boxes: they are cut, copied into, grown; a box that turns no more is read as a row of values. -/
namespace Go.Proofs.Ytbhefogimhlkmaa.Pv
open Go
set_option linter.unusedVariables false
set_option linter.unusedSimpArgs false
section
variable {n m : Nat} {F : Nat → Prop} {G : Gh} {env : Env} {σ : Sto} {a : Act} {w : World}
/-- A box may be forgotten. -/
theorem Sim.gone (h : Sim n m F G env σ a w) (k : Nat) : Sim n m F G env (σ.set k .gone) a w := by
  have hget : ∀ (i : Nat) e, (σ.set k .gone)[i]? = some e → (i = k ∧ e = .gone) ∨ σ[i]? = some e := by
    intro i e hi
    rw [List.getElem?_set] at hi
    split at hi
    · rename_i e'; subst e'
      split at hi
      · cases hi; exact .inl ⟨rfl, rfl⟩
      · cases hi
    · exact .inr hi
  have key : ∀ l b, ownAt G env (σ.set k .gone) a.tmps w l = some b → ownAt G env σ a.tmps w l = some b := by
    intro l b hl
    cases l with
    | slot t j => exact hl
    | cell i j =>
      simp only [ownAt] at hl ⊢
      cases hi : (σ.set k .gone)[i]? with
      | none => rw [hi] at hl; cases hl
      | some e =>
        rw [hi] at hl
        rcases hget i e hi with ⟨_, rfl⟩ | h'
        · cases hl
        · rw [h']; exact hl
  refine ⟨h.size, h.rep, fun t => by rw [List.length_set]; exact h.envlt t, fun i e hi => ?_, fun i e hi => ?_, h.kfree, fun i e hi hc => ?_, fun l1 l2 b g1 g2 => h.uniq l1 l2 b (key _ _ g1) (key _ _ g2), fun l b hl => h.fr l b (key _ _ hl), h.frlt, h.marks, h.markF, by rw [List.length_set]; exact h.floor⟩
  · rcases hget i e hi with ⟨_, rfl⟩ | h'
    · trivial
    · exact h.sto i e h'
  · rw [List.length_set]
    rcases hget i e hi with ⟨_, rfl⟩ | h'
    · trivial
    · exact h.stolt i e h'
  · rcases hget i e hi with ⟨_, rfl⟩ | h'
    · rcases hc with ⟨c, e⟩ | ⟨x, y, z, u, e⟩ <;> cases e
    · exact h.inj i e h' hc
end
/-- An environment, once box i turns no more (its first cells were cs). -/
def FrzL (i : Nat) (cs : List PV) : Env → Env → Prop
  | [], _ => True
  | (t, p) :: r, env => Frz i cs p (look env t) ∧ FrzL i cs r env
theorem FrzL.at {i : Nat} {cs : List PV} : ∀ {e env : Env}, FrzL i cs e env → ∀ t, Frz i cs (look e t) (look env t)
  | [], _, _, t => .inl rfl
  | (u, p) :: r, env, h, t => by
    rw [look_cons]
    split
    · rename_i e; subst e; exact h.1
    · exact FrzL.at h.2 t
def FrzC (i : Nat) (cs : List PV) : List PV → List PV → Prop
  | [], [] => True
  | p' :: r', p :: r => Frz i cs p' p ∧ FrzC i cs r' r
  | _, _ => False
theorem FrzC.get {i : Nat} {cs : List PV} : ∀ {ds' ds : List PV}, FrzC i cs ds' ds → ds'.length = ds.length ∧ ∀ (k : Nat) c', ds'[k]? = some c' → ∃ c, ds[k]? = some c ∧ Frz i cs c' c
  | [], [], _ => ⟨rfl, fun k c' h => by simp at h⟩
  | p' :: r', p :: r, h => by
    obtain ⟨h1, h2⟩ := FrzC.get h.2
    refine ⟨by simp [h1], fun k c' hc => ?_⟩
    cases k with
    | zero => simp at hc; subst hc; exact ⟨p, rfl, h.1⟩
    | succ k => simp at hc; simpa using h2 k c' hc
  | [], _ :: _, h => h.elim
  | _ :: _, [], h => h.elim
/-- The same of a store's end, entry for entry. -/
def FrzS (i : Nat) (cs : List PV) : Sto → Sto → Prop
  | [], [] => True
  | e' :: r', e :: r => (e' = e ∨ ∃ ds ds', e = .cells ds ∧ e' = .cells ds' ∧ FrzC i cs ds' ds) ∧ FrzS i cs r' r
  | _, _ => False
theorem FrzS.get {i : Nat} {cs : List PV} : ∀ {s' s : Sto}, FrzS i cs s' s → s'.length = s.length ∧ ∀ (k : Nat) e', s'[k]? = some e' → ∃ e, s[k]? = some e ∧ FrzE i cs e' e
  | [], [], _ => ⟨rfl, fun k c' h => by simp at h⟩
  | p' :: r', p :: r, h => by
    obtain ⟨h1, h2⟩ := FrzS.get h.2
    refine ⟨by simp [h1], fun k c' hc => ?_⟩
    cases k with
    | zero =>
      simp at hc; subst hc
      refine ⟨p, rfl, ?_⟩
      rcases h.1 with e | ⟨ds, ds', e1, e2, h3⟩
      · exact .inl e
      · exact .inr ⟨ds, ds', e1, e2, h3.get⟩
    | succ k => simp at hc; simpa using h2 k c' hc
  | [], _ :: _, h => h.elim
  | _ :: _, [], h => h.elim
theorem FrzS.refl {i : Nat} {cs : List PV} : ∀ s : Sto, FrzS i cs s s
  | [] => trivial
  | e :: r => ⟨.inl rfl, FrzS.refl r⟩
section
variable {P : Program} {l : Option Nat} {tt : TT} {n m : Nat} {all : Array Oper} {rest : List Oper} {env : Env} {σ : Sto} {Q : Post} {d : Nat} {dd : Option Nat} {ty : TypeId} {pos : String} {after : Array Edge} {g : Option (Nat × Bool)}
/-- How many elements there is room for. -/
theorem lk_cap (ht : TabOK P tt) {t : TypeId} {x : Operand} {e : TI} {i off sz len cap : Nat} (he : eti tt t = some e) (hx : opv tt env t x = .xsl i off sz len cap) :
    LookAt P n m env σ ⟨dd, .call ⟨.builtin .cap, #[x], #[t]⟩, ty, pos, after, g⟩ (.int .i64 cap) := by
  refine ⟨fun F G a w hs => ?_⟩
  have hxo := opv_ok hs tt t x
  rw [hx] at hxo
  obtain ⟨ad, ev, _⟩ := (hxo.toS rfl).xslv
  obtain ⟨eT, hu, hT⟩ := eti_ok ht he
  exact ⟨.int .i64 cap, by simp [execOp, resolve, invoke, builtin, Builtin.cap_, underlying, hu, ev, goInt], .inr (.inl (.pl (.int _ _))), trivial⟩
end
end Go.Proofs.Ytbhefogimhlkmaa.Pv
end
section
/- Rows of known capacity: copies, appends; elements of several cells, read and written. -/
namespace Go.Proofs.Ytbhefogimhlkmaa.Pv
open Go
set_option linter.unusedVariables false
set_option linter.unusedSimpArgs false
/-- What may be copied out: k elements; the cells of the first q of them, as they are read. -/
inductive SrcQ (σ : Sto) (sz : Nat) : PV → Nat → Nat → List PV → Prop
  | sl (es : List PV) : SrcQ σ sz (.sl .sh sz es) es.length es.length (flat es)
  | row (i off k q cap : Nat) (cs : List PV) (hi : σ[i]? = some (.cells cs)) (hq : q ≤ k) (hle : off + q * sz ≤ cs.length) (hS : ((cs.drop off).take (q * sz)).all PV.isS = true) : SrcQ σ sz (.xsl i off sz k cap) k q ((cs.drop off).take (q * sz))
  | none (i off cap : Nat) : SrcQ σ sz (.xsl i off sz 0 cap) 0 0 []
abbrev SrcR (σ : Sto) (sz : Nat) (p : PV) (k : Nat) (ys : List PV) : Prop := SrcQ σ sz p k k ys
theorem SrcR.sl {σ : Sto} {sz : Nat} (es : List PV) : SrcR σ sz (.sl .sh sz es) es.length (flat es) := SrcQ.sl es
theorem SrcR.row {σ : Sto} {sz : Nat} (i off k cap : Nat) (cs : List PV) (hi : σ[i]? = some (.cells cs)) (hle : off + k * sz ≤ cs.length) (hS : ((cs.drop off).take (k * sz)).all PV.isS = true) : SrcR σ sz (.xsl i off sz k cap) k ((cs.drop off).take (k * sz)) := SrcQ.row i off k k cap cs hi (Nat.le_refl _) hle hS
theorem SrcR.none {σ : Sto} {sz : Nat} (i off cap : Nat) : SrcR σ sz (.xsl i off sz 0 cap) 0 [] := SrcQ.none i off cap
theorem first_q {P : Program} {w : World} {sz q len cap : Nat} {ad : Addr} (vs : Nat → Value) (hs : ad.spot = none) (hv : ∀ j, j < q * sz → w.cell? ⟨ad.block, ad.off + j, none⟩ = some (vs j)) :
    (Builtin.firstCells sz q (.slice (some ad) len cap)).run P w = .ok ((List.range (q * sz)).map vs).toArray w := by
  simp only [Builtin.firstCells]
  exact run_loadCells w ad (q * sz) vs fun j hj => by rw [add_eq hs]; exact hv j hj
theorem first_0 {P : Program} {w : World} {sz len cap : Nat} {ad : Option Addr} : (Builtin.firstCells sz 0 (.slice ad len cap)).run P w = .ok #[] w := by
  cases ad <;> simp [Builtin.firstCells, loadCells, loadCellsFrom]
section
variable {P : Program} {n m : Nat} {F : Nat → Prop} {G : Gh} {env : Env} {σ : Sto} {a : Act} {w : World}
theorem srcQ_run (hs : Sim n m F G env σ a w) {v : Value} {p : PV} {sz k q0 : Nat} {ys : List PV} (hr : RepN G w v p) (h : SrcQ σ sz p k q0 ys) :
    (∀ w', (Builtin.lenOf v).run P w' = .ok k w') ∧ ys.length = q0 * sz ∧ q0 ≤ k ∧ ∀ q, q ≤ q0 → ∃ news : Array Value, (Builtin.firstCells sz q v).run P w = .ok news w ∧ (Builtin.firstCells sz q v).run P w.drew = .ok news w.drew ∧ news.size = q * sz ∧
      ∀ (j : Nat) u c, news[j]? = some u → (ys.take (q * sz))[j]? = some c → RepS G w u c ∧ c.lt σ.length := by
  cases h with
  | sl es =>
    obtain ⟨ad, cap, rfl, h'⟩ := ((hr.toS rfl).slv).slv
    rcases h' with rfl | ⟨ad, p, vs, rfl, hsp, hK, hp, hc, hsz, hv, hrr⟩
    · refine ⟨fun w' => rfl, by simp [flat], Nat.le_refl _, fun q hq => ?_⟩
      have : q = 0 := by simpa using hq
      subst this
      exact ⟨#[], first_0, first_0, by simp, fun j u c hj => by simp at hj⟩
    · refine ⟨fun w' => rfl, flat_length hsz, Nat.le_refl _, fun q hq => ?_⟩
      have hmul : q * sz ≤ es.length * sz := Nat.mul_le_mul_right _ hq
      refine ⟨_, first_q vs hsp (fun j hj => hv j (by omega)), first_q vs hsp (fun j hj => hv j (by omega)), by simp, fun j u c hj hcc => ?_⟩
      rw [List.getElem?_take] at hcc
      split at hcc
      · rename_i hjq
        simp [hjq] at hj
        subst hj
        have := hrr j c hcc
        exact ⟨.pl this, this.lt _⟩
      · cases hcc
  | row i off k q0 cap cs hi hqk hle hS =>
    obtain ⟨ad, rfl, c1, c3⟩ := (hr.toS rfl).xslv
    have hlen : ((cs.drop off).take (q0 * sz)).length = q0 * sz := by rw [List.length_take, List.length_drop]; omega
    refine ⟨fun w' => rfl, hlen, hqk, fun q hq => ?_⟩
    by_cases hk : q0 = 0
    · have : q = 0 := by omega
      subst this
      exact ⟨#[], first_0, first_0, by simp, fun j u c hj => by simp at hj⟩
    · obtain ⟨c3, _⟩ := c3.resolve_left (by omega)
      subst c3
      obtain ⟨hK, hsp, hcell⟩ := hs.sto i _ hi
      have hst := hs.stolt i _ hi
      simp only [Ent.lt] at hst
      have hmul : q * sz ≤ q0 * sz := Nat.mul_le_mul_right _ hq
      have hvals : ∀ j : Nat, ∃ v, j < q0 * sz → w.cell? ⟨G.bs i, off + j, none⟩ = some v ∧ ∀ c, cs[off + j]? = some c → RepS G w v c ∧ c.lt σ.length := by
        intro j
        by_cases hj : j < q0 * sz
        · have hlt : off + j < cs.length := by omega
          obtain ⟨v, h1, h2⟩ := hcell (off + j) cs[off + j] (by simp [hlt])
          refine ⟨v, fun _ => ⟨h1, fun c hc => ?_⟩⟩
          have hcc : c = cs[off + j] := by simpa [hlt] using hc.symm
          subst hcc
          have hiS := List.all_eq_true.1 hS cs[off + j] (List.mem_of_getElem? (i := j) (by rw [List.getElem?_take, if_pos hj, List.getElem?_drop]; exact hc))
          exact ⟨h2.toS hiS, ltAll_iff.1 hst _ (List.getElem_mem hlt)⟩
        · exact ⟨undef, fun h => absurd h hj⟩
      obtain ⟨vs, hvs⟩ := Classical.axiomOfChoice hvals
      refine ⟨_, first_q vs rfl (fun j hj => (hvs j (by omega)).1), first_q vs rfl (fun j hj => (hvs j (by omega)).1), by simp, fun j u c hj hcc => ?_⟩
      rw [List.getElem?_take] at hcc
      split at hcc
      · rename_i hjq
        simp [hjq] at hj
        subst hj
        rw [List.getElem?_take, if_pos (by omega), List.getElem?_drop] at hcc
        exact (hvs j (by omega)).2 c hcc
      · cases hcc
  | none i off cap =>
    obtain ⟨ad, rfl, c1, c3⟩ := (hr.toS rfl).xslv
    refine ⟨fun w' => rfl, by simp, Nat.le_refl _, fun q hq => ?_⟩
    have : q = 0 := by omega
    subst this
    exact ⟨#[], first_0, first_0, by simp, fun j u c hj => by simp at hj⟩
theorem srcR_run (hs : Sim n m F G env σ a w) {v : Value} {p : PV} {sz k : Nat} {ys : List PV} (hr : RepN G w v p) (h : SrcR σ sz p k ys) :
    (∀ w', (Builtin.lenOf v).run P w' = .ok k w') ∧ ys.length = k * sz ∧ ∀ q, q ≤ k → ∃ news : Array Value, (Builtin.firstCells sz q v).run P w = .ok news w ∧ (Builtin.firstCells sz q v).run P w.drew = .ok news w.drew ∧ news.size = q * sz ∧
      ∀ (j : Nat) u c, news[j]? = some u → (ys.take (q * sz))[j]? = some c → RepS G w u c ∧ c.lt σ.length :=
  let ⟨h1, h2, _, h3⟩ := srcQ_run hs hr h; ⟨h1, h2, h3⟩
end
section
variable {P : Program} {l : Option Nat} {tt : TT} {n m : Nat} {all : Array Oper} {rest : List Oper} {env : Env} {σ : Sto} {Q : Post} {d : Nat} {dd : Option Nat} {ty : TypeId} {pos : String} {after : Array Edge} {g : Option (Nat × Bool)}
end
end Go.Proofs.Ytbhefogimhlkmaa.Pv
end
section
/- Rows of known capacity: what stands in the way of them; elements of several cells. -/
namespace Go.Proofs.Ytbhefogimhlkmaa.Pv
open Go
set_option linter.unusedVariables false
set_option linter.unusedSimpArgs false
section
variable {P : Program} {l : Option Nat} {tt : TT} {n m : Nat} {all : Array Oper} {rest : List Oper} {env : Env} {σ : Sto} {Q : Post} {d : Nat} {dd : Option Nat} {ty : TypeId} {pos : String} {after : Array Edge} {g : Option (Nat × Bool)}
theorem equalIn_nil {w : World} {t eT : TypeId} (hu : P.underlying t = some (.slice eT)) (d : Nat) (ad : Option Addr) (ln cp : Nat) : (Op.equalIn (d + 1) t (.slice ad ln cp) (.slice none 0 0)).run P w = .ok ad.isNone w := by
  cases ad <;> simp [Op.equalIn, underlying, hu]
/-- Is a slice nil? -/
theorem op_eqNil (ht : TabOK P tt) {tS tY : TypeId} {x : Operand} {e : TI} {sz : Nat} {es : List PV} (he : eti tt tS = some e) (hx : opv tt env tS x = .sl .sh sz es) (hd : Nat.ble (d + 1) n = true)
    (h : ∀ b, (b = true → es = []) → SatOps P l n m all rest ((d, .bool b) :: env) σ Q) :
    SatOps P l n m all (⟨some d, .binOp .eql tS x (.const (.slice none 0 0)) tY, ty, pos, after, none⟩ :: rest) env σ Q := by
  refine op_gen rfl (by simp) fun F G a w hs => ?_
  have hxo := opv_ok hs tt tS x
  rw [hx] at hxo
  obtain ⟨eT, hu, hT⟩ := eti_ok ht he
  obtain ⟨ax, cx, ex, hx'⟩ := ((hxo.toS rfl).slv).slv
  have hg : (eqGuard .eql tS x (.const (.slice none 0 0)) (a.eval x) (.slice none 0 0)).run P w = .ok () w := eqGuard_plain (by simp [ex]) (by simp [ex])
  have hc : a.eval (.const (.slice none 0 0)) = .slice none 0 0 := rfl
  have hb : (binOp .eql tS (a.eval x) (.slice none 0 0)).run P w = .ok (.bool ax.isNone) w := by
    rw [ex]
    have := equalIn_nil (P := P) (w := w) hu 9999 ax es.length cx
    simp only [binOp, Op.equal, Op.maxDepth, Sem.run_bind, this, Result.andThen_ok, Sem.run_pure]
  refine ⟨.bool ax.isNone, w, G, _, σ, .inl ?_, hs.setS (ltn hd) (.pl (.bool _)) trivial, .refl _ _ _ _, h _ fun hn => ?_⟩
  · simp only [execOp, hc, Sem.run_bind, hg, Result.andThen_ok, hb, Sem.run_pure]
  · rcases hx' with h | ⟨ad, _, _, h, _⟩
    · exact h
    · rw [h] at hn; cases hn
theorem op_nilX {e : TI} (he : eti tt ty = some e) (hd : Nat.ble (d + 1) n = true) (h : SatOps P l n m all rest ((d, .xsl 0 0 e.size 0 0) :: env) σ Q) :
    SatOps P l n m all (⟨some d, .assign (.const (.slice none 0 0)), ty, pos, after, none⟩ :: rest) env σ Q := by
  refine op_gen rfl (by simp) fun F G a w hs => ?_
  exact ⟨.slice none 0 0, w, G, _, σ, .inl rfl, hs.setS (ltn hd) (.xsl _ _ _ _ _ _ (Nat.le_refl _) (.inl rfl)) (.inl rfl), .refl _ _ _ _, h⟩
/-- A call, by what it makes of the store. -/
theorem op_callR {fo : Operand} {args : Array Operand} {ats : Array TypeId} {f : FuncId} {ps : List PV} {R : PV → Sto → Prop} (hcal : Callable P f) (hc : SatCall P f ps σ R) (hfo : fo = .func f) (hps : passL tt env args.toList ats.toList = ps) (hlen : Nat.ble args.size ats.size = true)
    (htup : ps.all (fun p => !p.isTup) = true) (hd : Nat.ble (d + 1) n = true) (h : ∀ r σ', R r σ' → SatOps P l n m all rest ((d, r) :: env) σ' Q) :
    SatOps P l n m all (⟨some d, .call ⟨.value fo, args, ats⟩, ty, pos, after, none⟩ :: rest) env σ Q :=
  op_call (tt := tt) hcal (as := []) (bs := []) (by rw [hfo]; rfl) (by rw [List.nil_append, List.append_nil, hps]) (Nat.le_of_ble_eq_true hlen) htup hc (ltn hd) h
end
end Go.Proofs.Ytbhefogimhlkmaa.Pv
end
section
/- The rules for rows of known capacity, in the form in which the walk uses them. -/
namespace Go.Proofs.Ytbhefogimhlkmaa.Pv
open Go
set_option linter.unusedVariables false
set_option linter.unusedSimpArgs false
/-- The rest of a row's room. -/
abbrev room (d : Nat) : List PV := List.replicate d .dead
section
variable {α : Type} {f : α → PV} {sz : Nat}
end
theorem stoOK_app {σ s : Sto} (h : StoOK σ) (hs : ∀ e ∈ s, e.lt (σ.length + s.length)) : StoOK (σ ++ s) := by
  intro i e' hi
  rw [List.length_append]
  by_cases hlt : i < σ.length
  · rw [List.getElem?_append_left hlt] at hi
    have h1 := h i e' hi
    cases e' with
    | cells cs => simp only [Ent.lt] at h1 ⊢; rw [ltAll_iff] at h1 ⊢; exact fun v hv => lt_mono (Nat.le_add_right _ _) (h1 v hv)
    | gone => trivial
    | loop x y z u => exact fun t => lt_mono (Nat.le_add_right _ _) (h1 t)
  · rw [List.getElem?_append_right (by omega)] at hi
    exact hs e' (List.mem_of_getElem? hi)
/-- A round's end: what lies behind the first n boxes is nobody's. -/
theorem loopD_end {m : Nat} {E : Env} {σ s0 s : Sto} (n : Nat) (h : s.take n = s0) (hm : m ≤ (σ ++ s0).length) (hst : StoOK (σ ++ s0)) (he : ∀ t, (look E t).lt (σ ++ s0).length) : ∃ ex, σ ++ s = (σ ++ s0) ++ ex ∧ DropOK m E (σ ++ s0) ex :=
  ⟨s.drop n, by rw [List.append_assoc, ← h, List.take_append_drop], .inr ⟨hm, hst, he⟩⟩
theorem getD_memL {α : Type} [Inhabited α] {xs : List α} {i : Nat} (h : i < xs.length) : xs.getD i default ∈ xs := by simp [List.getD, h]
section
variable {P : Program} {l : Option Nat} {tt : TT} {n m : Nat} {all : Array Oper} {rest : List Oper} {env : Env} {τ ex : Sto} {Q : Post} {d : Nat} {dd : Option Nat} {ty : TypeId} {pos : String} {after : Array Edge} {g : Option (Nat × Bool)}
/-- Nothing is appended. -/
theorem op_append0 {σ : Sto} (ht : TabOK P tt) {tS tX : TypeId} {x y : Operand} {e iX : TI} {eX i off sz len cap : Nat} {q : PV} (he : eti tt tS = some e) (hsz : Nat.beq e.size sz = true) (hX : tl tt tX = some iX) (hXi : iX.desc = .slice eX)
    (hx : opv tt env tS x = .xsl i off sz len cap) (hq : opv tt env tX y = q) (hy : SrcR σ sz q 0 []) (hd : Nat.ble (d + 1) n = true)
    (h : SatOps P l n m all rest ((d, .xsl i off sz len cap) :: env) σ Q) :
    SatOps P l n m all (⟨some d, .call ⟨.builtin .append, #[x, y], #[tS, tX]⟩, ty, pos, after, none⟩ :: rest) env σ Q := by
  refine op_gen rfl (by simp) fun F G a w hs => ?_
  have hsz := Nat.eq_of_beq_eq_true hsz
  have hxo := opv_ok hs tt tS x
  have hxl := opv_lt hs tt tS x
  have hyo := opv_ok hs tt tX y
  rw [hx] at hxo hxl
  rw [hq] at hyo
  obtain ⟨ad, ex', c1, c3⟩ := (hxo.toS rfl).xslv
  obtain ⟨eT, hu, hT⟩ := eti_ok ht he
  subst hsz
  obtain ⟨r1, r2, r3⟩ := srcR_run (P := P) hs hyo hy
  obtain ⟨news, r3, r3D, r4, r5⟩ := r3 0 (Nat.le_refl _)
  have hn : news = #[] := Array.eq_empty_of_size_eq_zero (by rw [r4, Nat.zero_mul])
  subst hn
  have hin : (Builtin.append_ #[tS, tX] ty #[.slice ad len cap, a.eval y]).run P w = .ok (.slice ad len cap) w := by
    have hX' := (ht _ _ hX).und
    rw [hXi] at hX'
    have hsize : ∀ w', (sizeOf eT).run P w' = .ok e.size w' := hT.rsize
    simp only [Builtin.append_, List.getElem?_toArray, List.getElem?_cons_zero, List.getElem?_cons_succ, Sem.run_bind, underlying, hu, hX', run_program, Result.andThen_ok, Sem.run_pure, hsize, r1, Nat.add_zero, c1, if_true, r3, Bool.false_eq_true, if_false, Bool.not_false]
    cases ad <;> simp [storeCells]
  exact ⟨_, w, G, _, _, .inl (run_app (by rw [ex']; exact hin)), hs.setS (ltn hd) (.xsl _ _ _ _ _ _ c1 c3) hxl, .refl _ _ _ _, h⟩
end
end Go.Proofs.Ytbhefogimhlkmaa.Pv
end
section
/- Regions that draw their order, one of the steps turning the store (it takes what a cell owns). -/
namespace Go.Proofs.Ytbhefogimhlkmaa.Pv
open Go
set_option linter.unusedVariables false
set_option linter.unusedSimpArgs false
section
variable {P : Program} {l : Option Nat} {n m : Nat} {σ0 σ1 : Sto} {Q : Post}
/-- A step that turns the store. -/
structure StepL (P : Program) (l : Option Nat) (n m : Nat) (all : Array Oper) (env : Env) (σ0 σ1 : Sto) (o : Oper) (p : PV) : Prop where
  go : ∀ (env0 : Env), (∀ t ∈ readsOf all o, look env0 t = look env t) → ∀ F G a w, Sim n m F G env0 σ0 a w → ∀ (i : Nat) (K : Act → World → Prop) (Q' : Exit → Act → World → Prop), all[i]? = some o →
    (∀ a' w' G', Sim n m F G' ((o.dst.getD 1000000, p) :: env0) σ1 a' w' → Evol m F G w G' w' → K a' w') → wpOpIn (Wd l) 0 P all Q' i K a w
/-- Is the i-th bound to be ahead of the j-th, in whatever order (along k edges at most)? -/
def befN (all : Array Oper) : Nat → Nat → Nat → Bool
  | 0, _, _ => false
  | k + 1, j, i => match all[j]? with
    | some o => o.after.any fun e => Region.binds .any e && (Nat.beq e.on i || befN all k e.on i)
    | none => false
/-- Is one ahead of the j-th in whatever order, or behind it? -/
def befJ (all : Array Oper) (j i : Nat) : Bool := befN all 4 j i
def aftJ (all : Array Oper) (j i : Nat) : Bool := befN all 4 i j
/-- The steps: the one at j (counted from i on) turns the store, the others leave it as it is, ahead of that and behind it. -/
def DrawL (P : Program) (l : Option Nat) (n m : Nat) (all : Array Oper) (j : Nat) (σ0 σ1 : Sto) : Nat → Env → List Oper → List PV → Prop
  | _, _, [], [] => True
  | i, env, o :: os, p :: ps => (if i = j then StepL P l n m all env σ0 σ1 o p else (aftJ all j i = false → StepC P l n m all env σ0 o p) ∧ (befJ all j i = false → StepC P l n m all env σ1 o p)) ∧ DrawL P l n m all j σ0 σ1 (i + 1) ((o.dst.getD 1000000, p) :: env) os ps
  | _, _, _, _ => False
/-- The walk through such a region, in the text's order: K what comes behind. -/
structure DrawE (P : Program) (l : Option Nat) (n m : Nat) (all : Array Oper) (j : Nat) (σ0 σ1 : Sto) (i : Nat) (env : Env) (ops : List Oper) (K : Env → Prop) : Prop where
  go : ∃ ps, DrawL P l n m all j σ0 σ1 i env ops ps ∧ K (drawEnv env ops ps)
end
section
variable {P : Program} {l : Option Nat} {tt : TT} {n m : Nat} {all : Array Oper} {env : Env} {σ0 σ1 : Sto} {d : Nat} {op : Op} {ty : TypeId} {pos : String} {after : Array Edge} {os : List Oper} {K : Env → Prop} {p : PV} {i j : Nat}
end
end Go.Proofs.Ytbhefogimhlkmaa.Pv
end
section
/- Struct values whose nil slices are known to be nil; stored, they are the box's own. -/
namespace Go.Proofs.Ytbhefogimhlkmaa.Pv
open Go
set_option linter.unusedVariables false
set_option linter.unusedSimpArgs false
def nils0 : PV → PV
  | .sl .sh sz [] => .nils sz
  | p => p
def ownN : PV → PV
  | .nils sz => .sl .ow sz []
  | p => p
theorem ownN_rep {G : Gh} {w : World} {v : Value} {c : PV} (h : RepS G w v c) : RepO G w v (ownN c) ∧ ownB v (ownN c) = none := by
  unfold ownN
  split
  · rename_i sz
    have e : v = .slice none 0 0 := by cases h with | pl h => cases h; rfl
    subst e
    exact ⟨.ow none 0 sz [] (.sl0 none 0 sz) (fun h => by simp at h), rfl⟩
  · exact ⟨.sh h, ownB_sh h⟩
theorem ownN_lt {c : PV} {k : Nat} (h : c.lt k) : (ownN c).lt k := by unfold ownN; split <;> first | trivial | exact h
theorem zc1_nils {v : Value} {p : PV} (h : zc1 v p = true) : zc1 v (nils0 p) = true := by
  unfold nils0
  split
  · rename_i sz
    unfold zc1 at h
    split at h <;> first | rfl | (rename_i h'; cases h'; done) | cases h | (simp_all; done) | skip
    all_goals simp_all [zc1]
  · exact h
theorem zcs_nils : ∀ {vs : List Value} {ps : List PV}, zcs vs ps = true → zcs vs (ps.map nils0) = true
  | [], [], _ => rfl
  | v :: r, p :: q, h => by
    simp only [zcs, List.map_cons, Bool.and_eq_true] at h ⊢
    exact ⟨zc1_nils h.1, zcs_nils h.2⟩
  | [], _ :: _, h => by simp [zcs] at h
  | _ :: _, [], h => by simp [zcs] at h
def nilT (i : TI) : TI := ⟨i.desc, i.size, i.bytes, i.zero.map nils0⟩
def nilTT (tt : TT) : TT := tt.map fun x => (x.1, nilT x.2)
theorem tl_nilTT : ∀ (tt : TT) (t : Nat), tl (nilTT tt) t = (tl tt t).map nilT
  | [], _ => rfl
  | (k, v) :: r, t => by
    simp only [nilTT, List.map_cons, tl]
    cases Nat.beq k t with
    | true => rfl
    | false => exact tl_nilTT r t
theorem TabOK.nils {P : Program} {tt : TT} (ht : TabOK P tt) : TabOK P (nilTT tt) := by
  intro t i h
  rw [tl_nilTT, Option.map_eq_some_iff] at h
  obtain ⟨i0, h, rfl⟩ := h
  obtain ⟨h1, h2, info, z, h3, h4, h5, h6, h7⟩ := ht t i0 h
  exact ⟨h1, by simp only [nilT, List.length_map]; exact h2, info, z, h3, h4, h5, h6, zcs_nils h7⟩
section
variable {P : Program} {l : Option Nat} {tt : TT} {n m : Nat} {all : Array Oper} {rest : List Oper} {env : Env} {σ : Sto} {Q : Post} {d : Nat} {ty : TypeId} {pos : String} {after : Array Edge}
/-- A call with a guard that lets it by. -/
theorem step_callg {fo : Operand} {args : Array Operand} {ats : Array TypeId} {f : FuncId} {ps : List PV} {p : PV} {j t : Nat} {want b : Bool} (hj : (all[j]?).bind (·.dst) = some t) (hb : look env t = .bool b) (hw : b = want)
    (hcal : Callable P f) (hc : SatCall P f ps σ fun x σ' => x = p ∧ σ' = σ) (hfo : fo = .func f) (hps : passL tt env args.toList ats.toList = ps) (hlen : Nat.ble args.size ats.size = true)
    (htup : ps.all (fun p => !p.isTup) = true) (hd : Nat.ble (d + 1) n = true) : StepC P l n m all env σ ⟨some d, .call ⟨.value fo, args, ats⟩, ty, pos, after, some (j, want)⟩ p := by
  refine ⟨fun env0 hag F G a w hs i K Q' hi hK => ?_⟩
  have hb0 : look env0 t = .bool b := (hag t (by simp [readsOf, hj])).trans hb
  have hag' : ∀ t ∈ args.toList.flatMap Operand.tmp1, look env0 t = look env t := fun t ht => hag t (by
    subst hfo
    simp only [readsOf, Op.operands, Call.operands]
    rw [Array.toList_append, List.flatMap_append]
    exact List.mem_append_left _ (List.mem_append_right _ ht))
  have hrule := op_callP (tt := tt) (l := l) (all := all) (rest := []) (n := n) (m := m) (d := d) (ty := ty) (pos := pos) (after := after) (env := env0) (Q := fun e env' σ' => e = .normal ∧ env' = (d, p) :: env0 ∧ σ' = σ) hcal hc hfo ((passL_agree _ _ hag').trans hps) hlen htup hd (ops_nil ⟨rfl, rfl, rfl⟩)
  have h1 := hrule.go F G a w hs
  unfold wpOpIn
  simp only [hi]
  rw [if_pos (by simp [Region.wanted, yielded_of hs hj hb0, hw])]
  simp only [wpListIn] at h1
  rw [if_pos (by simp [Region.wanted])] at h1
  refine wpIn_both (fun a' w' q => ?_) (fun e a' w' hne q => ?_) h1
  · obtain ⟨G', env', σ', ⟨_, rfl, rfl⟩, hs', hv⟩ := q
    exact hK _ _ _ hs' hv
  · obtain ⟨G', env', σ', ⟨he, _⟩, _⟩ := q
    exact absurd he hne
end
end Go.Proofs.Ytbhefogimhlkmaa.Pv
end
section
/- A scope in which the run jumps back to a label. -/
namespace Go.Proofs.Ytbhefogimhlkmaa.Pv
open Go
set_option linter.unusedVariables false
set_option linter.unusedSimpArgs false
section
variable {P : Program} {F : Fence} {n : Nat} {a : Act} {w : World} {Q : Exit → Act → World → Prop} {b : Frame} {k : List Item} {cs : List Frame}
end
/-- As Q; by a goto to the label: J. -/
def jump0 (lb : Nat) (J : Env → Sto → Prop) (Q : Post) : Post
  | .goto l', env, σ => l' = lb ∧ J env σ
  | e, env, σ => Q e env σ
structure jumpTo (lb : Nat) (J : Env → Sto → Prop) (Q : Post) (e : Exit) (env : Env) (σ : Sto) : Prop where
  go : jump0 lb J Q e env σ
section
variable {P : Program} {l : Option Nat} {n m : Nat} {env : Env} {σ : Sto} {Q : Post} {lb : Nat} {J : Env → Sto → Prop}
end
end Go.Proofs.Ytbhefogimhlkmaa.Pv
end
section
/- Regions that draw their order: any number of steps turn the store, one behind the other; a step may write more slots than its own (what it takes the ownership of). -/
namespace Go.Proofs.Ytbhefogimhlkmaa.Pv
open Go
set_option linter.unusedVariables false
set_option linter.unusedSimpArgs false
abbrev Ws := List (Nat × PV)
/-- What stands ahead of each operation in every order, as bits. -/
def ancL : List Oper → List Nat → List Nat
  | [], acc => acc
  | o :: os, acc => ancL os (acc ++ [o.after.toList.foldl (fun m e => bif Region.binds .any e then m ||| (1 <<< e.on) ||| acc.getD e.on 0 else m) 0])
def ancs (ops : List Oper) : List Nat := ancL ops []
def anc (A : List Nat) (i j : Nat) : Bool := (A.getD i 0).testBit j
def AncOK (ops : List Oper) (acc : List Nat) : Prop := ∀ i o, i < acc.length → ops[i]? = some o → ∀ j, anc acc i j = true → ∀ listed : Array Bool, Closed ops listed → (∀ e ∈ o.after.toList, Region.binds .any e = true → listed.getD e.on true = true) → listed.getD j true = true
theorem fold_bit {acc : List Nat} {j : Nat} : ∀ (es : List Edge) (m : Nat), (es.foldl (fun m e => bif Region.binds .any e then m ||| (1 <<< e.on) ||| acc.getD e.on 0 else m) m).testBit j = true →
    m.testBit j = true ∨ ∃ e ∈ es, Region.binds .any e = true ∧ (e.on = j ∨ anc acc e.on j = true)
  | [], m, h => .inl h
  | e :: es, m, h => by
    rw [List.foldl_cons] at h
    rcases fold_bit es _ h with h1 | ⟨e', he', h1⟩
    · cases hb : Region.binds .any e with
      | false => rw [hb] at h1; exact .inl h1
      | true =>
        rw [hb] at h1
        simp only [cond_true, Nat.testBit_or, Bool.or_eq_true] at h1
        rcases h1 with (h1 | h1) | h1
        · exact .inl h1
        · refine .inr ⟨e, List.mem_cons_self, hb, .inl ?_⟩
          rw [Nat.one_shiftLeft, Nat.testBit_two_pow] at h1
          exact of_decide_eq_true h1
        · exact .inr ⟨e, List.mem_cons_self, hb, .inr h1⟩
    · exact .inr ⟨e', List.mem_cons_of_mem _ he', h1⟩
theorem ancL_ok {ops : List Oper} : ∀ (os : List Oper) (acc : List Nat), (∀ i, os[i]? = ops[acc.length + i]?) → AncOK ops acc → AncOK ops (ancL os acc)
  | [], acc, _, h => h
  | o :: os, acc, hos, h => by
    refine ancL_ok os _ (fun i => ?_) fun i o' hi ho' j hj listed hc hr => ?_
    · have := hos (i + 1)
      rw [List.getElem?_cons_succ] at this
      rw [this, List.length_append, List.length_cons, List.length_nil]
      congr 1
      omega
    · rw [List.length_append, List.length_cons, List.length_nil] at hi
      by_cases e : i < acc.length
      · refine h i o' e ho' j ?_ listed hc hr
        simpa [anc, List.getD_eq_getElem?_getD, List.getElem?_append_left e] using hj
      · have hi' : i = acc.length := by omega
        subst hi'
        have ho : ops[acc.length]? = some o := by have := hos 0; simpa using this.symm
        rw [ho] at ho'; cases ho'
        simp only [anc, List.getD_eq_getElem?_getD, List.getElem?_concat_length, Option.getD_some] at hj
        rcases fold_bit (acc := acc) (j := j) _ _ (by simpa only [List.getD_eq_getElem?_getD] using hj) with h1 | ⟨e', he', hb, h1⟩
        · simp at h1
        · have hl := hr e' he' hb
          rcases h1 with h1 | h1
          · rw [← h1]; exact hl
          · by_cases e2 : e'.on < acc.length
            · cases ho2 : ops[e'.on]? with
              | none =>
                have := List.getElem?_eq_none_iff.1 ho2
                have := (List.getElem?_eq_some_iff.1 ho).1
                omega
              | some o2 => exact h e'.on o2 e2 ho2 j h1 listed hc (hc e'.on o2 ho2 hl)
            · have : acc.getD e'.on 0 = 0 := by rw [List.getD_eq_getElem?_getD, List.getElem?_eq_none (by omega)]; rfl
              rw [anc, this, Nat.zero_testBit] at h1; cases h1
theorem ancL_len : ∀ (os : List Oper) (acc : List Nat), (ancL os acc).length = acc.length + os.length
  | [], acc => by simp [ancL]
  | o :: os, acc => by simp only [ancL]; rw [ancL_len os]; simp; omega
theorem anc_ready {ops : List Oper} {i j : Nat} {o : Oper} (ho : ops[i]? = some o) (h : anc (ancs ops) i j = true) {listed : Array Bool} (hc : Closed ops listed) (hr : ∀ e ∈ o.after.toList, Region.binds .any e = true → listed.getD e.on true = true) : listed.getD j true = true :=
  ancL_ok ops [] (fun i => by simp) (fun i o hi => by simp at hi) i o (by rw [ancL_len]; have := (List.getElem?_eq_some_iff.1 ho).1; simpa using this) ho j h listed hc hr
theorem anc_listed {ops : List Oper} {i j : Nat} {o : Oper} (ho : ops[i]? = some o) (h : anc (ancs ops) i j = true) {listed : Array Bool} (hc : Closed ops listed) (hl : listed.getD i true = true) : listed.getD j true = true := anc_ready ho h hc (hc i o ho hl)
/-- The region may be drawn: k operations ahead of the tail; which slots each one writes; which turn the store. -/
def okG (ops : List Oper) (k : Nat) (keys : List (List Nat)) (js : List Nat) : Bool :=
  let A := ancs ops
  Nat.beq keys.length k && ((List.range k).all fun i => match ops[i]? with
    | none => false
    | some o => (o.after.toList.all fun e => !Region.binds .any e || Nat.ble (e.on + 1) i) &&
        (List.range k).all fun j => Nat.beq i j ||
          (((keys.getD i []).all fun t => !(keys.getD j []).any (Nat.beq t)) || (Nat.ble (i + 1) j && anc A j i) || (Nat.ble (j + 1) i && anc A i j)) &&
          ((readsOf ops.toArray o).all fun t => !(keys.getD j []).any (Nat.beq t) || (Nat.ble (j + 1) i && anc A i j) || (Nat.ble (i + 1) j && anc A j i))) &&
  ((List.range js.length).all fun b => Nat.ble (js.getD b 0 + 1) k && (List.range b).all fun c => anc A (js.getD b 0) (js.getD c 0) && !Nat.beq (js.getD b 0) (js.getD c 0))
structure FactsG (ops : List Oper) (k : Nat) (keys : List (List Nat)) (i : Nat) (o : Oper) : Prop where
  back : ∀ e ∈ o.after.toList, Region.binds .any e = true → e.on < i
  writes : ∀ t ∈ keys.getD i [], ∀ j, j < k → j ≠ i → t ∈ keys.getD j [] → (i < j ∧ anc (ancs ops) j i = true) ∨ (j < i ∧ anc (ancs ops) i j = true)
  reads : ∀ t ∈ readsOf ops.toArray o, ∀ j, j < k → j ≠ i → t ∈ keys.getD j [] → (j < i ∧ anc (ancs ops) i j = true) ∨ (i < j ∧ anc (ancs ops) j i = true)
theorem any_beq {l : List Nat} {t : Nat} (h : t ∈ l) : l.any (Nat.beq t) = true := List.any_eq_true.2 ⟨t, h, by simp⟩
theorem okG_facts {ops : List Oper} {k : Nat} {keys : List (List Nat)} {js : List Nat} (h : okG ops k keys js = true) {i : Nat} {o : Oper} (hik : i < k) (hi : ops[i]? = some o) : FactsG ops k keys i o := by
  simp only [okG, Bool.and_eq_true] at h
  have h1 := all_range h.1.2 hik
  simp only [hi, Bool.and_eq_true] at h1
  obtain ⟨h3, h4⟩ := h1
  refine ⟨fun e he hb => ble_of (List.all_eq_true.1 h3 e he) hb, fun t ht j hjk hne hj => ?_, fun t ht j hjk hne hj => ?_⟩
  · have h5 := all_range h4 hjk
    simp only [Bool.or_eq_true, Bool.and_eq_true] at h5
    rcases h5 with h5 | ⟨h5, _⟩
    · exact absurd (Nat.eq_of_beq_eq_true h5).symm hne
    · rcases h5 with (h5 | h5) | h5
      · have := List.all_eq_true.1 h5 t ht
        rw [any_beq hj] at this; cases this
      · exact .inl ⟨Nat.le_of_ble_eq_true h5.1, h5.2⟩
      · exact .inr ⟨Nat.le_of_ble_eq_true h5.1, h5.2⟩
  · have h5 := all_range h4 hjk
    simp only [Bool.or_eq_true, Bool.and_eq_true] at h5
    rcases h5 with h5 | ⟨_, h5⟩
    · exact absurd (Nat.eq_of_beq_eq_true h5).symm hne
    · have := List.all_eq_true.1 h5 t ht
      rw [any_beq hj] at this
      simp only [Bool.not_true, Bool.false_or, Bool.or_eq_true, Bool.and_eq_true] at this
      rcases this with h6 | h6
      · exact .inl ⟨Nat.le_of_ble_eq_true h6.1, h6.2⟩
      · exact .inr ⟨Nat.le_of_ble_eq_true h6.1, h6.2⟩
/-- The slots as they are where some of the operations have been carried out. -/
def selW : Nat → Env → List Ws → (Nat → Bool) → Env
  | _, env, [], _ => env
  | b, env, ws :: r, s => selW (b + 1) (bif s b then ws ++ env else env) r s
theorem look_appW {ws : Ws} {env env' : Env} {t : Nat} (h : t ∉ ws.map (·.1) → look env t = look env' t) : look (ws ++ env) t = look (ws ++ env') t := by
  induction ws with
  | nil => exact h (by simp)
  | cons x r ih =>
    obtain ⟨d, p⟩ := x
    simp only [List.cons_append, look_cons]
    by_cases e : t = d
    · rw [if_pos e, if_pos e]
    · rw [if_neg e, if_neg e]
      exact ih fun hn => h (by simp only [List.map_cons, List.mem_cons, not_or]; exact ⟨e, hn⟩)
theorem look_outW {ws : Ws} {env : Env} {t : Nat} (h : t ∉ ws.map (·.1)) : look (ws ++ env) t = look env t := by
  induction ws with
  | nil => rfl
  | cons x r ih =>
    obtain ⟨d, p⟩ := x
    simp only [List.map_cons, List.mem_cons, not_or] at h
    simp only [List.cons_append, look_cons]
    rw [if_neg h.1]; exact ih h.2
theorem selW_congr {t : Nat} {s s' : Nat → Bool} : ∀ (wss : List Ws) (b : Nat) (env env' : Env), (∀ i ws, wss[i]? = some ws → t ∈ ws.map (·.1) → s (b + i) = s' (b + i)) → look env t = look env' t → look (selW b env wss s) t = look (selW b env' wss s') t
  | [], _, _, _, _, he => he
  | ws :: r, b, env, env', h, he => by
    refine selW_congr r (b + 1) _ _ (fun i ws' hi ht => ?_) ?_
    · rw [show b + 1 + i = b + (i + 1) by omega]; exact h (i + 1) ws' (by simpa using hi) ht
    · by_cases ht : t ∈ ws.map (·.1)
      · have := h 0 ws (by simp) ht
        rw [Nat.add_zero] at this
        rw [this]
        cases s' b
        · exact he
        · exact look_appW fun hn => absurd ht hn
      · have e1 : look (bif s b then ws ++ env else env) t = look env t := by cases s b <;> first | rfl | exact look_outW ht
        have e2 : look (bif s' b then ws ++ env' else env') t = look env' t := by cases s' b <;> first | rfl | exact look_outW ht
        rw [e1, e2, he]
theorem selW_none {t : Nat} {s : Nat → Bool} : ∀ (wss : List Ws) (b : Nat) (env : Env), (∀ i ws, wss[i]? = some ws → t ∈ ws.map (·.1) → s (b + i) = false) → look (selW b env wss s) t = look env t
  | [], _, _, _ => rfl
  | ws :: r, b, env, h => by
    show look (selW (b + 1) (bif s b then ws ++ env else env) r s) t = look env t
    rw [selW_none r (b + 1) _ fun i ws' hi ht => by rw [show b + 1 + i = b + (i + 1) by omega]; exact h (i + 1) ws' (by simpa using hi) ht]
    by_cases ht : t ∈ ws.map (·.1)
    · have := h 0 ws (by simp) ht
      rw [Nat.add_zero] at this
      rw [this]; rfl
    · cases s b
      · rfl
      · exact look_outW ht
theorem selW_put {t q : Nat} {s : Nat → Bool} {wq : Ws} (hq : s q = false) : ∀ (wss : List Ws) (b : Nat) (env : Env), b ≤ q → wss[q - b]? = some wq → (∀ i ws, wss[i]? = some ws → t ∈ wq.map (·.1) → t ∈ ws.map (·.1) → q < b + i → s (b + i) = false) →
    look (wq ++ selW b env wss s) t = look (selW b env wss fun i => s i || Nat.beq i q) t
  | [], b, env, _, h, _ => by simp at h
  | ws :: r, b, env, hb, h, hn => by
    show look (wq ++ selW (b + 1) (bif s b then ws ++ env else env) r s) t = look (selW (b + 1) (bif (s b || Nat.beq b q) then ws ++ env else env) r _) t
    by_cases e : b = q
    · subst e
      simp only [Nat.sub_self, List.getElem?_cons_zero, Option.some.injEq] at h
      subst h
      have hbb : Nat.beq b b = true := by simp
      rw [hq, hbb]
      simp only [Bool.false_or, cond_false, cond_true]
      by_cases ht : t ∈ ws.map (·.1)
      · rw [selW_none r (b + 1) (ws ++ env) fun i ws' hi ht' => by
          have h1 := hn (i + 1) ws' (by simpa using hi) ht ht' (by omega)
          rw [show b + 1 + i = b + (i + 1) by omega, h1]
          simp only [Bool.false_or]
          cases hx : Nat.beq (b + (i + 1)) b with
          | false => rfl
          | true => have := Nat.eq_of_beq_eq_true hx; omega]
        exact look_appW fun hn => absurd ht hn
      · rw [look_outW ht]
        refine selW_congr r (b + 1) _ _ (fun i ws' hi ht' => ?_) (look_outW ht).symm
        cases hx : Nat.beq (b + 1 + i) b with
        | false => simp
        | true => have := Nat.eq_of_beq_eq_true hx; omega
    · have hbq : Nat.beq b q = false := by
        cases hx : Nat.beq b q with
        | false => rfl
        | true => exact absurd (Nat.eq_of_beq_eq_true hx) e
      rw [hbq, Bool.or_false]
      have hsub : q - b = (q - (b + 1)) + 1 := by omega
      rw [hsub, List.getElem?_cons_succ] at h
      exact selW_put hq r (b + 1) _ (by omega) h fun i ws' hi ht ht' hlt => by
        rw [show b + 1 + i = b + (i + 1) by omega] at hlt ⊢
        exact hn (i + 1) ws' (by simpa using hi) ht ht' hlt
/-- How many of the turning ones have been carried out. -/
def stg (js : List Nat) (s : Nat → Bool) : Nat := (js.filter s).length
section
variable {P : Program} {l : Option Nat} {n m : Nat} {Q : Post}
/-- A step of such a region. -/
structure StepG (P : Program) (l : Option Nat) (n m : Nat) (all : Array Oper) (env : Env) (σ0 σ1 : Sto) (o : Oper) (ws : Ws) : Prop where
  go : ∀ (env0 : Env), (∀ t ∈ readsOf all o, look env0 t = look env t) → ∀ F G a w, Sim n m F G env0 σ0 a w → ∀ (i : Nat) (K : Act → World → Prop) (Q' : Exit → Act → World → Prop), all[i]? = some o →
    (∀ a' w' G', Sim n m F G' (ws ++ env0) σ1 a' w' → Evol m F G w G' w' → K a' w') → wpOpIn (Wd l) 0 P all Q' i K a w
/-- .. by the rules for one that is carried out in its turn. -/
theorem stepG_of {all : Array Oper} {env : Env} {σ0 σ1 : Sto} {o : Oper} {ws : Ws}
    (h : ∀ env0 : Env, SatOps P l n m all [o] (restr env (readsOf all o) ++ env0) σ0 fun e env' σ' => e = .normal ∧ env' = ws ++ (restr env (readsOf all o) ++ env0) ∧ σ' = σ1) : StepG P l n m all env σ0 σ1 o ws := by
  refine ⟨fun env0 hag F G a w hs i K Q' hi hK => ?_⟩
  have hlk : ∀ t, look (restr env (readsOf all o) ++ env0) t = look env0 t := by
    intro t
    by_cases ht : t ∈ (restr env (readsOf all o)).map (·.1)
    · have key : ∀ (ts : List Nat), (∀ u ∈ ts, look env0 u = look env u) → look (restr env ts ++ env0) t = look env0 t := by
        intro ts
        induction ts with
        | nil => intro _; rfl
        | cons u r ih =>
          intro hu
          show look ((u, look env u) :: (restr env r ++ env0)) t = look env0 t
          rw [look_cons]
          by_cases e : t = u
          · subst e; rw [if_pos rfl]; exact (hu t List.mem_cons_self).symm
          · rw [if_neg e]; exact ih fun v hv => hu v (List.mem_cons_of_mem _ hv)
      exact key _ hag
    · exact look_outW ht
  have h1 := (h env0).go F G a w (hs.weaken fun t => .inr (.inl (hlk t)))
  have hfin : ∀ a' w', PostA n m F G w (fun e env' σ' => e = .normal ∧ env' = ws ++ (restr env (readsOf all o) ++ env0) ∧ σ' = σ1) .normal a' w' → K a' w' := by
    rintro a' w' ⟨G', env', σ', ⟨_, rfl, rfl⟩, hs', hv⟩
    exact hK _ _ _ (hs'.weaken fun t => .inr (.inl (look_appW fun _ => (hlk t).symm))) hv
  unfold wpOpIn
  simp only [hi]
  simp only [wpListIn] at h1
  split
  · rename_i hw
    rw [if_pos hw] at h1
    refine wpIn_both (fun a' w' q => hfin a' w' q) (fun e a' w' hne q => ?_) h1
    obtain ⟨G', env', σ', ⟨he, _⟩, _⟩ := q
    exact absurd he hne
  · rename_i hw
    rw [if_neg hw] at h1
    exact ⟨h1.1, hfin _ _ h1.2⟩
/-- May the operation i be carried out at stage a? -/
def stOK (A : List Nat) (js : List Nat) (i a : Nat) : Bool :=
  (List.range js.length).all fun b => (!anc A i (js.getD b 0) || Nat.ble (b + 1) a) && (!anc A (js.getD b 0) i || Nat.ble a b)
def turnAt (js : List Nat) (i : Nat) : Option Nat := (List.range js.length).find? fun b => Nat.beq (js.getD b 0) i
def DrawG (P : Program) (l : Option Nat) (n m : Nat) (all : Array Oper) (A : List Nat) (keys : List (List Nat)) (js : List Nat) (σs : Nat → Sto) : Nat → Env → List Oper → List Ws → Prop
  | _, _, [], [] => True
  | i, env, o :: os, ws :: wss => (ws.map (·.1) = keys.getD i [] ∧ match turnAt js i with
      | some b => StepG P l n m all env (σs b) (σs (b + 1)) o ws
      | none => ∀ a, a ≤ js.length → stOK A js i a = true → StepG P l n m all env (σs a) (σs a) o ws) ∧ DrawG P l n m all A keys js σs (i + 1) (ws ++ env) os wss
  | _, _, _, _ => False
theorem selW_cons {b : Nat} {env : Env} {ws : Ws} {r : List Ws} {s : Nat → Bool} : selW b env (ws :: r) s = selW (b + 1) (bif s b then ws ++ env else env) r s := rfl
/-- The slots where all have been carried out. -/
def allW : Env → List Ws → Env
  | env, [] => env
  | env, ws :: r => allW (ws ++ env) r
theorem allW_sel : ∀ (wss : List Ws) (b : Nat) (env : Env) (s : Nat → Bool), (∀ i, i < wss.length → s (b + i) = true) → selW b env wss s = allW env wss
  | [], _, _, _, _ => rfl
  | ws :: r, b, env, s, h => by
    have h0 := h 0 (by simp)
    rw [Nat.add_zero] at h0
    rw [selW_cons, h0]
    exact allW_sel r (b + 1) _ s fun i hi => by rw [show b + 1 + i = b + (i + 1) by omega]; exact h (i + 1) (by simpa using hi)
theorem drawG_get {all : Array Oper} {A : List Nat} {keys : List (List Nat)} {js : List Nat} {σs : Nat → Sto} : ∀ (ops : List Oper) (wss : List Ws) (b : Nat) (env : Env), DrawG P l n m all A keys js σs b env ops wss → wss.length = ops.length ∧ ∀ (i : Nat) o, ops[i]? = some o → ∃ ws, wss[i]? = some ws ∧
    (ws.map (·.1) = keys.getD (b + i) [] ∧ match turnAt js (b + i) with
      | some c => StepG P l n m all (allW env (wss.take i)) (σs c) (σs (c + 1)) o ws
      | none => ∀ a, a ≤ js.length → stOK A js (b + i) a = true → StepG P l n m all (allW env (wss.take i)) (σs a) (σs a) o ws)
  | [], [], _, _, _ => ⟨rfl, fun i o h => by simp at h⟩
  | o :: os, ws :: wss, b, env, h => by
    obtain ⟨h1, h2⟩ := h
    obtain ⟨k1, k2⟩ := drawG_get os wss (b + 1) _ h2
    refine ⟨by simp [k1], fun i o' hi => ?_⟩
    cases i with
    | zero => simp at hi; subst hi; exact ⟨ws, rfl, h1⟩
    | succ i =>
      simp at hi
      obtain ⟨ws', e1, e2⟩ := k2 i o' hi
      rw [show b + 1 + i = b + (i + 1) by omega] at e2
      exact ⟨ws', by simpa using e1, by simpa only [List.take_succ_cons, allW] using e2⟩
  | [], _ :: _, _, _, h => h.elim
  | _ :: _, [], _, _, h => h.elim
theorem turnAt_some {js : List Nat} {i b : Nat} (h : turnAt js i = some b) : b < js.length ∧ js.getD b 0 = i := by
  have h1 := List.mem_of_find?_eq_some h
  have h2 := List.find?_some h
  exact ⟨List.mem_range.1 h1, Nat.eq_of_beq_eq_true h2⟩
theorem turnAt_none {js : List Nat} {i : Nat} (h : turnAt js i = none) : i ∉ js := by
  intro hm
  obtain ⟨b, hb, e⟩ := List.getElem_of_mem hm
  have := List.find?_eq_none.1 h b (List.mem_range.2 hb)
  refine this ?_
  rw [List.getD_eq_getElem?_getD, List.getElem?_eq_getElem hb]
  simp [e]
/-- Those that have been carried out stand at the head. -/
theorem stg_pre {js : List Nat} {s : Nat → Bool} (h : ∀ b c, c < b → b < js.length → s (js.getD b 0) = true → s (js.getD c 0) = true) : ∀ b, b < js.length → (s (js.getD b 0) = true ↔ b < stg js s) := by
  induction js with
  | nil => intro b hb; simp at hb
  | cons x r ih =>
    have ih := ih fun b c hcb hb hs => by
      have := h (b + 1) (c + 1) (by omega) (by simpa using hb) (by simpa using hs)
      simpa using this
    intro b hb
    have hx : ∀ c, c < r.length → s (r.getD c 0) = true → s x = true := fun c hc hs => by
      have := h (c + 1) 0 (by omega) (by simpa using hc) (by simpa using hs)
      simpa using this
    have hst : stg (x :: r) s = (if s x = true then 1 else 0) + stg r s := by
      simp only [stg, List.filter_cons]
      split <;> simp; omega
    cases b with
    | zero =>
      simp only [List.getD_cons_zero]
      rw [hst]
      by_cases e : s x = true
      · simp only [e, if_true, true_iff]; omega
      · simp only [e, if_false, false_iff]
        have : stg r s = 0 := by
          simp only [stg, List.length_eq_zero_iff, List.filter_eq_nil_iff]
          intro y hy hs
          obtain ⟨c, hc, e'⟩ := List.getElem_of_mem hy
          exact e (hx c hc (by rw [List.getD_eq_getElem?_getD, List.getElem?_eq_getElem hc]; simpa [e'] using hs))
        rw [this]; simp
    | succ b =>
      simp only [List.getD_cons_succ]
      simp only [List.length_cons] at hb
      rw [ih b (by omega), hst]
      by_cases e : s x = true
      · rw [if_pos e]; omega
      · rw [if_neg e]
        have : stg r s = 0 := by
          simp only [stg, List.length_eq_zero_iff, List.filter_eq_nil_iff]
          intro y hy hs
          obtain ⟨c, hc, e'⟩ := List.getElem_of_mem hy
          exact e (hx c hc (by rw [List.getD_eq_getElem?_getD, List.getElem?_eq_getElem hc]; simpa [e'] using hs))
        omega
theorem stg_le (js : List Nat) (s : Nat → Bool) : stg js s ≤ js.length := List.length_filter_le _ _
theorem stg_put {js : List Nat} {s s' : Nat → Bool} (h : ∀ x ∈ js, s' x = s x) : stg js s' = stg js s := by
  unfold stg; rw [List.filter_congr h]
/-- The steps, whichever way their order is drawn; then the tail. -/
theorem any_stepG {ops : List Oper} {k : Nat} {keys : List (List Nat)} {js : List Nat} {σs : Nat → Sto} {wss : List Ws} {env : Env} (hok : okG ops k keys js = true) (ht : tailOK ops k = true) (hst : DrawG P l n m ops.toArray (ancs ops) keys js σs 0 env (ops.take k) wss) {Q' : Exit → Act → World → Prop} {F : Nat → Prop} {G : Gh} {w : World}
    (hQ : ∀ a w' G', Sim n m F G' (allW env wss) (σs js.length) a w' → Evol m F G w G' w' → wpListIn (Wd l) 0 P ops.toArray Q' (ops.drop k) a w') : ∀ (fuel : Nat) (listed : Array Bool) (a : Act) (w' : World) (G' : Gh) (env' : Env), listed.size = ops.length → ((List.range ops.length).filter fun i => !listed.getD i true).length ≤ fuel →
      Sim n m F G' env' (σs (stg js fun i => listed.getD i true)) a w' → Evol m F G w G' w' → (∀ i, i < ops.length → listed.getD i true = true → i < k) →
      (∀ t, look env' t = look (selW 0 env wss fun i => listed.getD i true) t) → Closed ops listed → wpAnyIn (Wd l) 0 P .any ops.toArray Q' fuel listed a w' := by
  obtain ⟨hpl, hget⟩ := drawG_get (ops.take k) wss 0 env hst
  have hkl : k ≤ ops.length := by simp only [tailOK, Bool.and_eq_true] at ht; exact Nat.le_of_ble_eq_true ht.1
  have hpl2 : wss.length = k := by rw [hpl, List.length_take]; omega
  have htk : ∀ {i : Nat} {o : Oper}, i < k → ops[i]? = some o → (ops.take k)[i]? = some o := fun {i o} hi ho => by rw [List.getElem?_take, if_pos hi]; exact ho
  have hex : ∀ {i : Nat}, i < k → ∃ o, ops[i]? = some o := fun {i} hi => ⟨ops[i], by simp⟩
  have hjs : ∀ b, b < js.length → js.getD b 0 < k ∧ ∀ c, c < b → anc (ancs ops) (js.getD b 0) (js.getD c 0) = true ∧ js.getD b 0 ≠ js.getD c 0 := by
    intro b hb
    have h := hok
    simp only [okG, Bool.and_eq_true] at h
    have h1 := all_range h.2 hb
    simp only [Bool.and_eq_true] at h1
    refine ⟨Nat.le_of_ble_eq_true h1.1, fun c hc => ?_⟩
    have h2 := all_range h1.2 hc
    simp only [Bool.and_eq_true, Bool.not_eq_true'] at h2
    exact ⟨h2.1, fun e => by rw [e] at h2; simp at h2⟩
  have hkey : ∀ i ws, wss[i]? = some ws → ws.map (·.1) = keys.getD i [] := by
    intro i ws hi
    have hik : i < k := by rw [← hpl2]; exact (List.getElem?_eq_some_iff.1 hi).1
    obtain ⟨o, ho⟩ := hex hik
    obtain ⟨ws', e1, e2, _⟩ := hget i o (htk hik ho)
    rw [hi] at e1; cases e1
    rw [Nat.zero_add] at e2; exact e2
  have hpre : ∀ listed : Array Bool, Closed ops listed → ∀ b, b < js.length → (listed.getD (js.getD b 0) true = true ↔ b < stg js fun i => listed.getD i true) := fun listed hc =>
    stg_pre (s := fun i => listed.getD i true) fun b c hcb hb hs => by
      obtain ⟨q1, q2⟩ := hjs b hb
      obtain ⟨o, ho⟩ := hex q1
      exact anc_listed ho (q2 c hcb).1 hc hs
  have hfin : ∀ (fuel : Nat) (listed : Array Bool) (a : Act) (w' : World) (G' : Gh) (env' : Env), listed.size = ops.length → ((List.range ops.length).filter fun i => !listed.getD i true).length ≤ fuel → (∀ i, i < k → listed.getD i true = true) → (∀ i, i < ops.length → listed.getD i true = true → i < k) → Sim n m F G' env' (σs (stg js fun i => listed.getD i true)) a w' → Evol m F G w G' w' →
      (∀ t, look env' t = look (selW 0 env wss fun i => listed.getD i true) t) → Closed ops listed → wpAnyIn (Wd l) 0 P .any ops.toArray Q' fuel listed a w' := by
    intro fuel listed a w' G' env' hsz hfu hall hsub hs hv hlk hc
    have hstg : stg js (fun i => listed.getD i true) = js.length := by
      unfold stg
      rw [List.filter_eq_self.2 fun x hx => ?_]
      obtain ⟨b, hb, e⟩ := List.getElem_of_mem hx
      have := (hjs b hb).1
      rw [List.getD_eq_getElem?_getD, List.getElem?_eq_getElem hb] at this
      exact hall x (by simpa [e] using this)
    rw [hstg] at hs
    refine any_tail ht fuel k listed a w' (Nat.le_refl _) hkl ?_ hsz hc (fun j hj => ⟨hsub j hj, hall j⟩) (hQ a w' G' (hs.weaken fun t => .inr (.inl ?_)) hv)
    · have hsub2 : ((List.range ops.length).filter fun i => Nat.ble k i).length ≤ ((List.range ops.length).filter fun i => !listed.getD i true).length := by
        have e : ((List.range ops.length).filter fun i => Nat.ble k i) = ((List.range ops.length).filter fun i => !listed.getD i true).filter fun i => Nat.ble k i := by
          rw [List.filter_filter]
          refine List.filter_congr fun x hx => ?_
          have hx := List.mem_range.1 hx
          cases hb : Nat.ble k x with
          | false => simp
          | true =>
            have := Nat.le_of_ble_eq_true hb
            have : listed.getD x true = false := by
              cases hh : listed.getD x true with
              | false => rfl
              | true => have := hsub x hx hh; omega
            simp [this]
        rw [e]; exact List.length_filter_le _ _
      have hcount : ∀ n, k ≤ n → ((List.range n).filter fun i => Nat.ble k i).length = n - k := by
        intro n
        induction n with
        | zero => intro _; simp
        | succ n ih =>
          intro hn
          rw [List.range_succ, List.filter_append, List.length_append]
          by_cases e : k ≤ n
          · have hb : Nat.ble k n = true := by simp only [Nat.ble_eq]; exact e
            rw [ih e, List.filter_cons_of_pos hb]; simp; omega
          · have hk : k = n + 1 := by omega
            have hz : ((List.range n).filter fun i => Nat.ble k i) = [] := by
              rw [List.filter_eq_nil_iff]; intro x hx hb; have := List.mem_range.1 hx; have := Nat.le_of_ble_eq_true hb; omega
            have hz2 : ([n].filter fun i => Nat.ble k i) = [] := by
              rw [List.filter_eq_nil_iff]; intro x hx hb; have := List.mem_singleton.1 hx; have := Nat.le_of_ble_eq_true hb; omega
            rw [hz, hz2]; simp; omega
      have := hcount ops.length hkl
      omega
    · rw [hlk t, allW_sel wss 0 env _ fun i hi => by rw [Nat.zero_add]; exact hall i (by omega)]
  intro fuel
  induction fuel with
  | zero =>
    intro listed a w' G' env' hsz hfu hs hv h0 hlk hc
    refine hfin 0 listed a w' G' env' hsz hfu (fun i hi => ?_) h0 hs hv hlk hc
    cases hl : listed.getD i true with
    | true => rfl
    | false =>
      have : i ∈ (List.range ops.length).filter fun i => !listed.getD i true := List.mem_filter.2 ⟨List.mem_range.2 (by omega), by simp [hl]⟩
      rw [List.length_eq_zero_iff.1 (Nat.le_zero.1 hfu)] at this; cases this
  | succ fuel ih =>
    intro listed a w' G' env' hsz hfu hs hv h0 hlk hc
    by_cases hall : ∀ i, i < k → listed.getD i true = true
    · exact hfin (fuel + 1) listed a w' G' env' hsz hfu hall h0 hs hv hlk hc
    · have hready : ∃ i, i ∈ Region.ready .any ops.toArray listed := by
        have : ∃ i, i < k ∧ listed.getD i true = false := by
          refine Classical.byContradiction fun hn => hall fun i hi => ?_
          cases hb : listed.getD i true with
          | true => rfl
          | false => exact absurd ⟨i, hi, hb⟩ hn
        obtain ⟨i, ⟨hik, hif⟩, hmin⟩ := least_ex this
        have hio : ops[i]? = some ops[i] := by simp
        have hf := okG_facts hok hik hio
        refine ⟨i, mem_ready.2 ⟨_, hio, hif, fun e he hb => ?_⟩⟩
        have hon := hf.back e he hb
        rw [getD_eq hsz (by omega)]
        cases hb' : listed.getD e.on true with
        | true => rfl
        | false => have := hmin e.on ⟨by omega, hb'⟩; omega
      refine ⟨fun hr => (by obtain ⟨i, hi⟩ := hready; rw [hr] at hi; cases hi), fun i hi => ?_⟩
      obtain ⟨o, ho, hl, hrdy⟩ := mem_ready.1 hi
      have hil := (List.getElem?_eq_some_iff.1 ho).1
      have hik : i < k := by
        rcases Nat.lt_or_ge i k with h | h
        · exact h
        · exfalso
          refine hall fun j hj => ?_
          have hT := ht
          simp only [tailOK, Bool.and_eq_true] at hT
          have := all_range hT.2 hil
          simp only [Bool.or_eq_true, Bool.and_eq_true, ho] at this
          rcases this with h' | ⟨c1, c2⟩
          · have := Nat.le_of_ble_eq_true h'; omega
          · exact covers_listed hc hsz 30 i j o ho (all_range c1 (by omega)) fun e he hb => by
              have h1 := hrdy e he hb
              have := ble_of (List.all_eq_true.1 c2 e he) hb
              rw [getD_eq hsz (by omega)] at h1; exact h1
      obtain ⟨ws, e3, e5, e4⟩ := hget i o (htk hik ho)
      have hf := okG_facts hok hik ho
      have hrdy' : ∀ e ∈ o.after.toList, Region.binds .any e = true → listed.getD e.on true = true := fun e he hb => by
        have h1 := hrdy e he hb
        rw [getD_eq hsz (by have := hf.back e he hb; omega)] at h1; exact h1
      have hbef : ∀ j, anc (ancs ops) i j = true → listed.getD j true = true := fun j hj => anc_ready ho hj hc hrdy'
      have haft : ∀ j, j < k → anc (ancs ops) j i = true → listed.getD j true = false := fun j hj ha => by
        cases hlj : listed.getD j true with
        | false => rfl
        | true =>
          obtain ⟨oj, hoj⟩ := hex hj
          have := anc_listed hoj ha hc hlj
          rw [hl] at this; cases this
      have hsame : ∀ t ∈ readsOf ops.toArray o, look env' t = look (allW env (wss.take i)) t := by
        intro t ht'
        rw [hlk t, ← allW_sel (wss.take i) 0 env (fun j => Nat.ble (j + 1) i) fun j hj => by
          rw [List.length_take] at hj
          rw [Nat.zero_add]; simp only [Nat.ble_eq]; omega]
        have hcut : look (selW 0 env wss fun j => Nat.ble (j + 1) i) t = look (selW 0 env (wss.take i) fun j => Nat.ble (j + 1) i) t := by
          have key : ∀ (l1 l2 : List Ws) (b : Nat) (env : Env), l1.length = i - b → look (selW b env (l1 ++ l2) fun j => Nat.ble (j + 1) i) t = look (selW b env l1 fun j => Nat.ble (j + 1) i) t := by
            intro l1
            induction l1 with
            | nil =>
              intro l2 b env hlen
              rw [List.nil_append]
              exact selW_none l2 b env fun q ws' _ _ => by
                simp only [List.length_nil] at hlen
                cases hx : Nat.ble (b + q + 1) i with
                | false => rfl
                | true => have := Nat.le_of_ble_eq_true hx; omega
            | cons x r ihl =>
              intro l2 b env hlen
              rw [List.cons_append, selW_cons, selW_cons]
              exact ihl l2 (b + 1) _ (by simp at hlen; omega)
          have := key (wss.take i) (wss.drop i) 0 env (by rw [List.length_take]; omega)
          rwa [List.take_append_drop] at this
        rw [← hcut]
        refine selW_congr wss 0 env env (fun j wj hj htj => ?_) rfl
        rw [Nat.zero_add]
        have hjk : j < k := by rw [← hpl2]; exact (List.getElem?_eq_some_iff.1 hj).1
        rw [hkey j wj hj] at htj
        by_cases hji : j = i
        · subst hji
          show listed.getD j true = Nat.ble (j + 1) j
          rw [hl]
          symm
          cases hx : Nat.ble (j + 1) j with
          | false => rfl
          | true => have := Nat.le_of_ble_eq_true hx; omega
        · rcases hf.reads t ht' j hjk hji htj with ⟨q1, q2⟩ | ⟨q1, q2⟩
          · rw [hbef j q2]; symm; simp only [Nat.ble_eq]; omega
          · show listed.getD j true = Nat.ble (j + 1) i
            rw [haft j hjk q2]
            symm
            cases hx : Nat.ble (j + 1) i with
            | false => rfl
            | true => have := Nat.le_of_ble_eq_true hx; omega
      have hset : ∀ j, (listed.setIfInBounds i true).getD j true = (listed.getD j true || Nat.beq j i) := fun j => by
        rw [setD (by omega)]
        by_cases e : j = i
        · subst e; simp
        · have : Nat.beq j i = false := by
            cases hx : Nat.beq j i with
            | false => rfl
            | true => exact absurd (Nat.eq_of_beq_eq_true hx) e
          rw [if_neg e, this, Bool.or_false]
      have hnext : ∀ a2 w2 G2, Sim n m F G2 (ws ++ env') (σs (stg js fun j => (listed.setIfInBounds i true).getD j true)) a2 w2 → Evol m F G' w' G2 w2 → wpAnyIn (Wd l) 0 P .any ops.toArray Q' fuel (listed.setIfInBounds i true) a2 w2 := fun a2 w2 G2 hs2 hv2 => by
        refine ih (listed.setIfInBounds i true) a2 w2 G2 _ (by simpa using hsz) ?_ hs2 (hv.trans hv2) (fun j hj hl' => ?_) (fun t => ?_) (hc.set (by omega) ho hrdy')
        · have hsub : ((List.range ops.length).filter fun j => !(listed.setIfInBounds i true).getD j true) = (((List.range ops.length).filter fun j => !listed.getD j true).filter fun j => !(listed.setIfInBounds i true).getD j true) := by
            rw [List.filter_filter]
            congr 1
            funext j
            rw [setD (by omega)]
            by_cases e : j = i
            · simp [e]
            · simp [e]
          rw [hsub]
          have := List.length_filter_lt_length_iff_exists (p := fun j => !(listed.setIfInBounds i true).getD j true) (l := (List.range ops.length).filter fun j => !listed.getD j true)
          have h5 := this.2 ⟨i, List.mem_filter.2 ⟨List.mem_range.2 hil, by simp [hl]⟩, by rw [setD (by omega)]; simp⟩
          omega
        · rw [setD (by omega)] at hl'
          split at hl'
          · omega
          · exact h0 j hj hl'
        · have e6 : (fun j => (listed.setIfInBounds i true).getD j true) = fun j => listed.getD j true || Nat.beq j i := funext hset
          rw [e6, ← selW_put (q := i) (wq := ws) (s := fun j => listed.getD j true) hl wss 0 env (Nat.zero_le _) (by simpa using e3) fun j wj hj ht1 ht2 hlt => ?_]
          · exact look_appW fun _ => hlk t
          · rw [Nat.zero_add] at hlt ⊢
            have hjk : j < k := by rw [← hpl2]; exact (List.getElem?_eq_some_iff.1 hj).1
            rw [hkey j wj hj] at ht2
            rw [hkey i ws e3] at ht1
            rcases hf.writes t ht1 j hjk (by omega) ht2 with ⟨q1, q2⟩ | ⟨q1, _⟩
            · exact haft j hjk q2
            · omega
      rw [Nat.zero_add] at e4
      cases hT : turnAt js i with
      | some b =>
        rw [hT] at e4
        obtain ⟨hb, hbi⟩ := turnAt_some hT
        have hst1 : stg js (fun j => listed.getD j true) = b := by
          have p1 := hpre listed hc
          have q1 : ¬ b < stg js (fun j => listed.getD j true) := by
            rw [← p1 b hb, hbi, hl]; simp
          have q2 : ∀ c, c < b → c < stg js (fun j => listed.getD j true) := fun c hcb => by
            rw [← p1 c (by omega)]
            have := ((hjs b hb).2 c hcb).1
            rw [hbi] at this
            exact hbef _ this
          rcases Nat.eq_zero_or_pos b with h | h
          · omega
          · have := q2 (b - 1) (by omega); omega
        have hc2 := hc.set (by omega : i < listed.size) ho hrdy'
        have hst2 : stg js (fun j => (listed.setIfInBounds i true).getD j true) = b + 1 := by
          have p1 := hpre _ hc2
          have q1 : b < stg js (fun j => (listed.setIfInBounds i true).getD j true) := by
            rw [← p1 b hb, hbi, setD (by omega), if_pos rfl]
          have q2 : ¬ b + 1 < stg js (fun j => (listed.setIfInBounds i true).getD j true) := by
            intro hlt
            have hle := stg_le js fun j => (listed.setIfInBounds i true).getD j true
            have h4 := (p1 (b + 1) (by omega)).2 hlt
            have h5 := (hjs (b + 1) (by omega)).2 b (by omega)
            rw [setD (by omega), if_neg (fun e => h5.2 (by rw [e, hbi]))] at h4
            have := haft _ (hjs (b + 1) (by omega)).1 (by rw [hbi] at h5; exact h5.1)
            rw [h4] at this; cases this
          omega
        rw [hst1] at hs
        rw [hst2] at hnext
        exact e4.go env' hsame F G' a w' hs i _ Q' (by simpa using ho) fun a2 w2 G2 hs2 hv2 => hnext a2 w2 G2 hs2 hv2
      | none =>
        rw [hT] at e4
        have hnj := turnAt_none hT
        have hst1 : stg js (fun j => (listed.setIfInBounds i true).getD j true) = stg js fun j => listed.getD j true :=
          stg_put fun x hx => by
            rw [setD (by omega), if_neg fun e => hnj (by rw [← e]; exact hx)]
        rw [hst1] at hnext
        refine (e4 _ (stg_le _ _) ?_).go env' hsame F G' a w' hs i _ Q' (by simpa using ho) fun a2 w2 G2 hs2 hv2 => hnext a2 w2 G2 hs2 hv2
        rw [stOK, List.all_eq_true]
        intro b hb
        have hb := List.mem_range.1 hb
        have p1 := hpre listed hc b hb
        rw [Bool.and_eq_true]
        refine ⟨?_, ?_⟩
        · cases hA : anc (ancs ops) i (js.getD b 0) with
          | false => rfl
          | true =>
            have := p1.1 (hbef _ hA)
            simp only [Bool.not_true, Bool.false_or, Nat.ble_eq]; omega
        · cases hA : anc (ancs ops) (js.getD b 0) i with
          | false => rfl
          | true =>
            have h6 := haft _ (hjs b hb).1 hA
            have : ¬ b < stg js fun j => listed.getD j true := by rw [← p1, h6]; simp
            simp only [Bool.not_true, Bool.false_or, Nat.ble_eq]; omega
/-- The walk through such a region, in the text's order: K what comes behind. -/
structure DrawH (P : Program) (l : Option Nat) (n m : Nat) (all : Array Oper) (A : List Nat) (keys : List (List Nat)) (js : List Nat) (σs : Nat → Sto) (i : Nat) (env : Env) (ops : List Oper) (K : Env → Prop) : Prop where
  go : ∃ wss, DrawG P l n m all A keys js σs i env ops wss ∧ K (allW env wss)
theorem sat_drawG {id k : Nat} {keys : List (List Nat)} {js : List Nat} {σs : Nat → Sto} {ops : List Oper} {env : Env} {σ : Sto} (hσ : σs 0 = σ) (hm : P.follows .mixedOrders = true) (hok : okG ops k keys js = true) (ht : tailOK ops k = true)
    (h : DrawH P l n m ops.toArray (ancs ops) keys js σs 0 env (ops.take k) fun env' => SatOps P l n m ops.toArray (ops.drop k) env' (σs js.length) Q) : Sat P l n m (.region id ops.toArray true) env σ Q := by
  subst hσ
  obtain ⟨wss, h1, h2⟩ := h
  refine ⟨fun F G a w hs => ?_⟩
  refine wpIn_region_any hm ?_
  have hs' := hs.drew
  have hlen := (drawG_get _ _ _ _ h1).1
  have hkl : k ≤ ops.length := by simp only [tailOK, Bool.and_eq_true] at ht; exact Nat.le_of_ble_eq_true ht.1
  have hc : ∀ (i : Nat), i < ops.length → (Array.replicate ops.toArray.size false).getD i true = false := fun i hi => by simp [Array.getD_eq_getD_getElem?, hi]
  have hj0 : stg js (fun i => (Array.replicate ops.toArray.size false).getD i true) = 0 := by
    simp only [stg, List.length_eq_zero_iff, List.filter_eq_nil_iff]
    intro x hx
    obtain ⟨b, hb, e⟩ := List.getElem_of_mem hx
    have h := hok
    simp only [okG, Bool.and_eq_true] at h
    have h3 := all_range h.2 hb
    simp only [Bool.and_eq_true] at h3
    have h4 := Nat.le_of_ble_eq_true h3.1
    rw [List.getD_eq_getElem?_getD, List.getElem?_eq_getElem hb] at h4
    simp only [Option.getD_some, e] at h4
    rw [hc x (by omega)]; simp
  refine any_stepG hok ht h1 (F := F) (G := G) (w := w) (fun a' w' G' hs2 hv2 => list_evol hv2 _ _ _ (h2.go F G' a' w' hs2)) _ _ a w.drew G env (by simp) (by have := List.length_filter_le (fun i => !(Array.replicate ops.length false).getD i true) (List.range ops.length); simpa only [List.length_range, List.size_toArray] using this) (by rw [hj0]; exact hs') (Evol.drew hs) (fun i hi hl => ?_) (fun t => ?_) (fun i o hi hl => ?_)
  · rw [hc i hi] at hl; cases hl
  · refine (selW_none wss 0 env fun i ws hi _ => ?_).symm
    rw [Nat.zero_add]
    have := (List.getElem?_eq_some_iff.1 hi).1
    rw [hlen, List.length_take] at this
    exact hc i (by omega)
  · rw [hc i (List.getElem?_eq_some_iff.1 hi).1] at hl; cases hl
end
/-- The store at each stage. -/
def stoL (L : List Sto) (a : Nat) : Sto := L.getD a []
def nBef (js : List Nat) (i : Nat) : Nat := (js.filter fun j => Nat.ble (j + 1) i).length
/-- The end of one step: what it wrote; the store behind it. -/
def EndG (e : Exit) (env : Env) (σ : Sto) (ws : Ws) (base : Env) (σ1 : Sto) : Prop := e = .normal ∧ env = ws ++ base ∧ σ = σ1
theorem eg3 {e : Exit} {env : Env} {σ : Sto} {ws : Ws} {base : Env} {σ1 : Sto} (h1 : e = .normal) (h2 : env = ws ++ base) (h3 : σ = σ1) : EndG e env σ ws base σ1 := ⟨h1, h2, h3⟩
/-- One step, by the rules for one that is carried out in its turn. -/
structure StepO (P : Program) (l : Option Nat) (n m : Nat) (all : Array Oper) (env : Env) (σ0 σ1 : Sto) (o : Oper) (ws : Ws) : Prop where
  g : StepG P l n m all env σ0 σ1 o ws
/-- A step at the other stages. -/
def Oth (A : List Nat) (js : List Nat) (i c : Nat) (p : Sto → Prop) : Nat → List Sto → Prop
  | _, [] => True
  | a, σ :: r => (a = c ∨ stOK A js i a = false ∨ p σ) ∧ Oth A js i c p (a + 1) r
/-- The walk, behind the question whether the next one is carried out at all. -/
structure DrawJ (P : Program) (l : Option Nat) (n m : Nat) (all : Array Oper) (A : List Nat) (keys : List (List Nat)) (js : List Nat) (σs : Nat → Sto) (i : Nat) (env : Env) (ops : List Oper) (K : Env → Prop) : Prop where
  go : DrawH P l n m all A keys js σs i env ops K
section
variable {P : Program} {l : Option Nat} {n m : Nat} {all : Array Oper} {A : List Nat} {keys : List (List Nat)} {js : List Nat} {L : List Sto} {i : Nat} {env : Env} {o : Oper} {os : List Oper} {K : Env → Prop}
theorem StepC.toG {σ : Sto} {d : Nat} {op : Op} {ty : TypeId} {pos : String} {after : Array Edge} {gd : Option (Nat × Bool)} {p : PV} (h : StepC P l n m all env σ ⟨some d, op, ty, pos, after, gd⟩ p) : StepG P l n m all env σ σ ⟨some d, op, ty, pos, after, gd⟩ [(d, p)] :=
  ⟨fun env0 hag F G a w hs i K Q' hi hK => h.go env0 hag F G a w hs i K Q' hi hK⟩
theorem so_lk {σ : Sto} {d : Nat} {op : Op} {ty : TypeId} {pos : String} {after : Array Edge} {p : PV} (hl : LookAt P n m (restr env (readsOf all ⟨some d, op, ty, pos, after, none⟩)) σ ⟨some d, op, ty, pos, after, none⟩ p) (hd : Nat.ble (d + 1) n = true) (hnd : isDefer op = false) :
    StepO P l n m all env σ σ ⟨some d, op, ty, pos, after, none⟩ [(d, p)] := ⟨(step_look ⟨d, rfl, ltn hd⟩ (fun c e => by rw [show op = .defer c from e] at hnd; cases hnd) (.free rfl hl)).toG⟩
theorem og_so {σ0 σ1 : Sto} {ws : Ws} (h : ∀ env0 : Env, SatOps P l n m all [o] (restr env (readsOf all o) ++ env0) σ0 fun e env' σ' => EndG e env' σ' ws (restr env (readsOf all o) ++ env0) σ1) : StepO P l n m all env σ0 σ1 o ws := ⟨stepG_of h⟩
theorem og_dg {σs : Nat → Sto} {ops : List Oper} (h : DrawH P l n m all A keys js σs i env ops K) : DrawH P l n m all A keys js σs i env ops K := h
theorem og_dj {σs : Nat → Sto} {ops : List Oper} (h : DrawJ P l n m all A keys js σs i env ops K) : DrawJ P l n m all A keys js σs i env ops K := h
theorem og_oth {p : Sto → Prop} {c a : Nat} (h : Oth A js i c p a L) : Oth A js i c p a L := h
theorem oth_nil {p : Sto → Prop} {c a : Nat} : Oth A js i c p a [] := trivial
theorem oth_same {p : Sto → Prop} {c a : Nat} {σ : Sto} {r : List Sto} (h : Nat.beq a c = true) (hr : Oth A js i c p (a + 1) r) : Oth A js i c p a (σ :: r) := ⟨.inl (Nat.eq_of_beq_eq_true h), hr⟩
theorem oth_no {p : Sto → Prop} {c a : Nat} {σ : Sto} {r : List Sto} (h : stOK A js i a = false) (hr : Oth A js i c p (a + 1) r) : Oth A js i c p a (σ :: r) := ⟨.inr (.inl h), hr⟩
theorem oth_yes {p : Sto → Prop} {c a : Nat} {σ : Sto} {r : List Sto} (h : p σ) (hr : Oth A js i c p (a + 1) r) : Oth A js i c p a (σ :: r) := ⟨.inr (.inr h), hr⟩
theorem Oth.get {p : Sto → Prop} {c : Nat} : ∀ (L : List Sto) (a : Nat), Oth A js i c p a L → ∀ b, b < L.length → stOK A js i (a + b) = true → a + b ≠ c → p (L.getD b [])
  | [], a, _, b, hb, _, _ => by simp at hb
  | σ :: r, a, h, b, hb, hs, hc => by
    cases b with
    | zero =>
      rcases h.1 with h1 | h1 | h1
      · exact absurd h1 hc
      · rw [Nat.add_zero] at hs; rw [hs] at h1; cases h1
      · exact h1
    | succ b =>
      have := Oth.get r (a + 1) h.2 b (by simpa using hb) (by rw [show a + 1 + b = a + (b + 1) by omega]; exact hs) (by omega)
      simpa using this
theorem dg_nil {σs : Nat → Sto} (h : K env) : DrawH P l n m all A keys js σs i env [] K := ⟨[], trivial, h⟩
theorem dg_step {ws : Ws} {c : Nat} {σ : Sto} (hT : turnAt js i = none) (hk : ws.map (·.1) = keys.getD i []) (hc : nBef js i = c) (hσ : stoL L c = σ) (hlen : Nat.beq L.length (js.length + 1) = true)
    (h : StepO P l n m all env σ σ o ws) (hn : DrawH P l n m all A keys js (stoL L) (i + 1) (ws ++ env) os K) (ho : Oth A js i c (fun σ => StepO P l n m all env σ σ o ws) 0 L) : DrawJ P l n m all A keys js (stoL L) i env (o :: os) K := by
  obtain ⟨wss, h2, h3⟩ := hn
  have hlen := Nat.eq_of_beq_eq_true hlen
  refine ⟨⟨ws :: wss, ⟨⟨hk, ?_⟩, h2⟩, h3⟩⟩
  rw [hT]
  intro a ha hs
  by_cases e : a = c
  · subst e; rw [hσ]; exact h.g
  · have := Oth.get L 0 ho a (by omega) (by rw [Nat.zero_add]; exact hs) (by omega)
    exact this.g
theorem dg_turn {ws : Ws} {b : Nat} {σ σ1 : Sto} (hT : turnAt js i = some b) (hk : ws.map (·.1) = keys.getD i []) (h0 : stoL L b = σ) (h1 : stoL L (b + 1) = σ1)
    (h : StepO P l n m all env σ σ1 o ws) (hn : DrawH P l n m all A keys js (stoL L) (i + 1) (ws ++ env) os K) : DrawJ P l n m all A keys js (stoL L) i env (o :: os) K := by
  obtain ⟨wss, h2, h3⟩ := hn
  refine ⟨⟨ws :: wss, ⟨⟨hk, ?_⟩, h2⟩, h3⟩⟩
  rw [hT]
  subst h0; subst h1
  exact h.g
theorem dg_turn0_0 {σ σ1 : Sto} {r : List Sto} (hT : turnAt js i = some 0) (hk : ([] : Ws).map (·.1) = keys.getD i [])
    (h : StepO P l n m all env σ σ1 o []) (hn : DrawH P l n m all A keys js (stoL (σ :: σ1 :: r)) (i + 1) ([] ++ env) os K) : DrawJ P l n m all A keys js (stoL (σ :: σ1 :: r)) i env (o :: os) K := dg_turn hT hk rfl rfl h hn
theorem dg_step0_1 {d : Nat} {p : PV} {σ : Sto} {r : List Sto} (hc : nBef js i = 0) (hT : turnAt js i = none) (hk : ([(d, p)] : Ws).map (·.1) = keys.getD i []) (hlen : Nat.beq (σ :: r).length (js.length + 1) = true)
    (h : StepO P l n m all env σ σ o [(d, p)]) (hn : DrawH P l n m all A keys js (stoL (σ :: r)) (i + 1) ([(d, p)] ++ env) os K) (ho : Oth A js i 0 (fun σ => StepO P l n m all env σ σ o [(d, p)]) 0 (σ :: r)) : DrawJ P l n m all A keys js (stoL (σ :: r)) i env (o :: os) K := dg_step hT hk hc rfl hlen h hn ho
theorem dg_step1_1 {s0 : Sto} {d : Nat} {p : PV} {σ : Sto} {r : List Sto} (hc : nBef js i = 1) (hT : turnAt js i = none) (hk : ([(d, p)] : Ws).map (·.1) = keys.getD i []) (hlen : Nat.beq (s0 :: σ :: r).length (js.length + 1) = true)
    (h : StepO P l n m all env σ σ o [(d, p)]) (hn : DrawH P l n m all A keys js (stoL (s0 :: σ :: r)) (i + 1) ([(d, p)] ++ env) os K) (ho : Oth A js i 1 (fun σ => StepO P l n m all env σ σ o [(d, p)]) 0 (s0 :: σ :: r)) : DrawJ P l n m all A keys js (stoL (s0 :: σ :: r)) i env (o :: os) K := dg_step hT hk hc rfl hlen h hn ho
theorem dg_turn0_1 {d : Nat} {p : PV} {σ σ1 : Sto} {r : List Sto} (hT : turnAt js i = some 0) (hk : ([(d, p)] : Ws).map (·.1) = keys.getD i [])
    (h : StepO P l n m all env σ σ1 o [(d, p)]) (hn : DrawH P l n m all A keys js (stoL (σ :: σ1 :: r)) (i + 1) ([(d, p)] ++ env) os K) : DrawJ P l n m all A keys js (stoL (σ :: σ1 :: r)) i env (o :: os) K := dg_turn hT hk rfl rfl h hn
theorem dg_step0_2 {d d2 : Nat} {p p2 : PV} {σ : Sto} {r : List Sto} (hc : nBef js i = 0) (hT : turnAt js i = none) (hk : ([(d, p), (d2, p2)] : Ws).map (·.1) = keys.getD i []) (hlen : Nat.beq (σ :: r).length (js.length + 1) = true)
    (h : StepO P l n m all env σ σ o [(d, p), (d2, p2)]) (hn : DrawH P l n m all A keys js (stoL (σ :: r)) (i + 1) ([(d, p), (d2, p2)] ++ env) os K) (ho : Oth A js i 0 (fun σ => StepO P l n m all env σ σ o [(d, p), (d2, p2)]) 0 (σ :: r)) : DrawJ P l n m all A keys js (stoL (σ :: r)) i env (o :: os) K := dg_step hT hk hc rfl hlen h hn ho
theorem dg_step1_2 {s0 : Sto} {d d2 : Nat} {p p2 : PV} {σ : Sto} {r : List Sto} (hc : nBef js i = 1) (hT : turnAt js i = none) (hk : ([(d, p), (d2, p2)] : Ws).map (·.1) = keys.getD i []) (hlen : Nat.beq (s0 :: σ :: r).length (js.length + 1) = true)
    (h : StepO P l n m all env σ σ o [(d, p), (d2, p2)]) (hn : DrawH P l n m all A keys js (stoL (s0 :: σ :: r)) (i + 1) ([(d, p), (d2, p2)] ++ env) os K) (ho : Oth A js i 1 (fun σ => StepO P l n m all env σ σ o [(d, p), (d2, p2)]) 0 (s0 :: σ :: r)) : DrawJ P l n m all A keys js (stoL (s0 :: σ :: r)) i env (o :: os) K := dg_step hT hk hc rfl hlen h hn ho
variable {σs : Nat → Sto} {dst : Option Nat} {op : Op} {ty : TypeId} {pos : String} {after : Array Edge}
theorem dg_n (h : DrawJ P l n m all A keys js σs i env (⟨dst, op, ty, pos, after, none⟩ :: os) K) : DrawH P l n m all A keys js σs i env (⟨dst, op, ty, pos, after, none⟩ :: os) K := h.go
theorem sat_drawG1 {Q : Post} {σ σ1 : Sto} {id k j : Nat} {ops : List Oper} {env : Env} (hm : P.follows .mixedOrders = true) (hok : okG ops k keys [j] = true) (ht : tailOK ops k = true)
    (h : DrawH P l n m ops.toArray (ancs ops) keys [j] (stoL [σ, σ1]) 0 env (ops.take k) fun env' => SatOps P l n m ops.toArray (ops.drop k) env' σ1 Q) : Sat P l n m (.region id ops.toArray true) env σ Q := sat_drawG (σs := stoL [σ, σ1]) rfl hm hok ht h
theorem sat_drawG0 {Q : Post} {σ : Sto} {id k : Nat} {ops : List Oper} {env : Env} (hm : P.follows .mixedOrders = true) (hok : okG ops k keys [] = true) (ht : tailOK ops k = true)
    (h : DrawH P l n m ops.toArray (ancs ops) keys [] (stoL [σ]) 0 env (ops.take k) fun env' => SatOps P l n m ops.toArray (ops.drop k) env' σ Q) : Sat P l n m (.region id ops.toArray true) env σ Q := sat_drawG (σs := stoL [σ]) rfl hm hok ht h
end
end Go.Proofs.Ytbhefogimhlkmaa.Pv
end
