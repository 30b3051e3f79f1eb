/- The framework of plain values, part 3: what a program's words stand for, step by step. -/
import Derived.Test.YtbpjaiemlkcccaaPvM2
import Derived.Laws.Externs
import Derived.Lib.Overlaps
import Derived.ScopeJumps
set_option linter.unusedVariables false
set_option linter.unusedSimpArgs false
section
/- A contract of the library that leaves the heap below as it is, as a contract over plain values. -/
namespace Go.Proofs.Ytbpjaiemlkcccaa.Pv
open Go
section
variable {P : Program} {l : Option Nat} {tt : TT} {n m : Nat} {all : Array Oper} {rest : List Oper} {env : Env} {σ : Sto} {Q : Post} {d : Nat} {ty : TypeId} {pos : String} {after : Array Edge}
end
def agn (m : Nat) (env : Env) (σ ex : Sto) : Prop := ex = [] ∨ (m ≤ σ.length ∧ xh σ ∧ ∀ t, (look env t).lt σ.length)
theorem Sim.drop {n m : Nat} {F : Fr} {G : Gh} {env : Env} {σ ex : Sto} {a : Act} {w : World} (h : Sim n m F G env (σ ++ ex) a w) (hd : agn m env σ ex) : Sim n m F G env σ a w := by
  rcases hd with rfl | ⟨h1, h2, h3⟩
  · rw [List.append_nil] at h; exact h
  have hget : ∀ (i : Nat) e, σ[i]? = some e → (σ ++ ex)[i]? = some e := fun i e hi => by
    rw [List.getElem?_append_left (List.getElem?_eq_some_iff.1 hi).1]; exact hi
  have key : ∀ l b, nz G env σ a.tmps w l = some b → nz G env (σ ++ ex) a.tmps w l = some b := by
    intro l b hl
    cases l with
    | slot t j => exact hl
    | cell i j =>
      simp only [nz] at hl ⊢
      cases hi : σ[i]? with
      | none => rw [hi] at hl; cases hl
      | some e => rw [hi] at hl; rw [hget i e hi]; exact hl
  exact ⟨h.size, h.rep, h3, fun i e hi => h.sto i e (hget i e hi), h2, h.kfree, fun i e hi => h.inj i e (hget i e hi), fun l1 l2 b g1 g2 => h.uniq l1 l2 b (key _ _ g1) (key _ _ g2),
    fun l b hl => h.fr l b (key l b hl), h.frlt, h.marks, h.markF, h1⟩
section
variable {P : Program} {l : Option Nat} {n m : Nat} {env : Env} {σ : Sto} {Q : Post}
theorem as2 {c : Code} {ex : Sto} (hd : agn m env σ ex) (h : Sat P l n m c env σ Q) : Sat P l n m c env (σ ++ ex) Q := ⟨fun F G a w hs => h.go F G a w (hs.drop hd)⟩
theorem acn {α : Type} {c : Code} (E : α → Env) (S : α → Sto) (I : α → Prop) (μ : α → Nat) (x0 : α) (h0 : I x0) (hw : WkL (E x0) env) (hS : S x0 = σ)
    (hr : ∀ x, I x → Sat P l n m c (E x) (S x) (andThen (fun env' σ' => ∃ x', I x' ∧ μ x' < μ x ∧ WkL (E x') env' ∧ ∃ ex, σ' = S x' ++ ex ∧ agn m (E x') (S x') ex) Q)) : Sat P l n m (.loop c) env σ Q := by
  subst hS
  refine aba (E x0) hw (ajf (fun k e s => ∃ x, I x ∧ μ x = k ∧ (∀ t, Wk (look (E x) t) (look e t)) ∧ ∃ ex, s = S x ++ ex ∧ agn m (E x) (S x) ex) (μ x0) ⟨x0, h0, rfl, fun t => Wk.same _, [], (List.append_nil _).symm, .inl rfl⟩ ?_)
  rintro k e s ⟨x, hx, rfl, he, ex, rfl, hd⟩
  refine ahg (E x) he (as2 hd ((hr x hx).mono fun e' env' σ' q => ?_))
  cases e' with
  | normal =>
    obtain ⟨x', h1, h2, h3, h4⟩ := q.go
    exact ⟨⟨μ x', h2, x', h1, rfl, h3.at, h4⟩⟩
  | _ => exact ⟨q.go⟩
end
theorem adv {σ : Sto} (h : xh σ) {e : Ent} (he : e.lt (σ.length + 1)) : xh (σ ++ [e]) := by
  intro i e' hi
  rw [List.length_append, List.length_singleton]
  by_cases hlt : i < σ.length
  · rw [List.getElem?_append_left hlt] at hi
    have h1 := h i e' hi
    cases e' with
    | cells cs => simp only [Ent.lt] at h1 ⊢; rw [mo] at h1 ⊢; exact fun v hv => zh (Nat.le_succ _) (h1 v hv)
    | gone => trivial
    | loop x y z u => exact fun t => zh (Nat.le_succ _) (h1 t)
  · rw [List.getElem?_append_right (by omega)] at hi
    cases hj : i - σ.length with
    | zero => rw [hj] at hi; cases hi; exact he
    | succ k => rw [hj] at hi; simp at hi
theorem vw : ∀ {env : Env} {k : Nat}, (∀ x ∈ env, x.2.lt k) → ∀ t, (look env t).lt k
  | [], _, _, _ => trivial
  | (u, p) :: r, k, h, t => by
    rw [qg]
    split
    · exact h (u, p) List.mem_cons_self
    · exact vw (fun x hx => h x (List.mem_cons_of_mem _ hx)) t
end Go.Proofs.Ytbpjaiemlkcccaa.Pv
end
section
/- Regions that draw their order, the first operation taking over what a slot owns. -/
namespace Go.Proofs.Ytbpjaiemlkcccaa.Pv
open Go
section
variable {P : Program} {l : Option Nat} {n m : Nat} {σ : Sto} {Q : Post}
structure StepM (P : Program) (l : Option Nat) (n m : Nat) (all : Array Oper) (env : Env) (σ : Sto) (u : Nat) (q : PV) (o : Oper) (p : PV) : Prop where
  go : ∀ (env0 : Env), look env0 u = look env u → ∀ F G a w, Sim n m F G env0 σ a w → ∀ (i : Nat) (K : Act → World → Prop) (Q' : Exit → Act → World → Prop), all[i]? = some o →
    (∀ a' w' G', Sim n m F G' ((o.dst.getD 1000000, p) :: (u, q) :: env0) σ a' w' → Evol m F G w G' w' → K a' w') → wpOpIn (Wd l) 0 P all Q' i K a w
end
section
variable {P : Program} {l : Option Nat} {tt : TT} {n m : Nat} {all : Array Oper} {env : Env} {σ : Sto} {d : Nat} {op : Op} {ty : TypeId} {pos : String} {after : Array Edge} {os : List Oper} {K : Env → Prop} {p : PV}
theorem Sim.setTup0 {F : Fr} {G : Gh} {a : Act} {w : World} (hs : Sim n m F G env σ a w) (hd : d < n) : Sim n m F G ((d, .tup []) :: env) σ (a.put (some d) undef) w :=
  hs.setN hd (.inr (.inr ⟨#[], [], rfl, rfl, rfl, fun j v c h => by simp at h⟩)) trivial
theorem atp {j t : Nat} {want b : Bool} (hj : (all[j]?).bind (·.dst) = some t) (hb : look env t = .bool b) (hw : b = !want) (hd : Nat.ble (d + 1) n = true) : StepC P l n m all env σ ⟨some d, op, ty, pos, after, some (j, want)⟩ (.tup []) := by
  refine ⟨fun env0 hag F G a w hs i K Q' hi hK => ?_⟩
  have hb0 : look env0 t = .bool b := (hag t (by simp [readsOf, hj])).trans hb
  unfold wpOpIn
  simp only [hi]
  rw [if_neg (by simp [Region.wanted, ad5 hs hj hb0, hw])]
  exact ⟨fun _ _ => trivial, hK _ _ G (hs.setTup0 (ltn hd)) (.refl _ _ _ _)⟩
theorem aoz {env0 : Env} : ∀ {xs : List Operand} {es : List PV}, (∀ t ∈ xs.flatMap Operand.tmp1, look env0 t = look env t) → Opvs tt env xs es → Opvs tt env0 xs es := fun {xs es} hag hx => ⟨by
  rw [hx.e]
  refine List.map_congr_left fun x hxm => (af5 fun t ht => hag t (List.mem_flatMap.2 ⟨x, hxm, ht⟩)).symm⟩
theorem apn {t : TypeId} {len : Nat} {parts : Array (Nat × Operand)} {e : TI} {es : List PV} (ht : oq P tt) (he : eti tt t = some e) (hx : Opvs tt env (parts.toList.map (·.2)) es) (hpl : es.all PV.pl = true)
    (hsz : es.all (fun p => Nat.beq p.cells.length e.size) = true) (hbig : Nat.ble (es.length * e.size) 16777216 = true) (hlen : len = parts.toList.length) (hparts : parts.toList.map (·.1) = List.range' 0 parts.toList.length)
    (hd : Nat.ble (d + 1) n = true) : StepC P l n m all env σ ⟨some d, .buildSlice t len parts, ty, pos, after, none⟩ (.sl .sh e.size es) := by
  refine ⟨fun env0 hag F G a w hs i K Q' hi hK => ?_⟩
  have hag' : ∀ t ∈ (parts.toList.map (·.2)).flatMap Operand.tmp1, look env0 t = look env t := fun t ht => hag t (by
    simp only [readsOf, Op.operands, List.append_nil]; exact ht)
  have hrule := mq (P := P) (l := l) (all := all) (rest := []) (n := n) (m := m) (d := d) (ty := ty) (pos := pos) (after := after) (env := env0) (σ := σ) (Q := fun e' env' σ' => e' = .normal ∧ env' = (d, .sl .sh e.size es) :: env0 ∧ σ' = σ) .sh ht he (aoz hag' hx) hpl hsz hbig hlen hparts hd (ak ⟨rfl, rfl, rfl⟩)
  have h1 := hrule.go F G a w hs
  unfold wpOpIn
  simp only [hi]
  rw [if_pos (by simp [Region.wanted])]
  simp only [wpListIn] at h1
  rw [if_pos (by simp [Region.wanted])] at h1
  refine ado (fun a' w' q => ?_) (fun e a' w' hne q => ?_) h1
  · obtain ⟨G', env', σ', ⟨_, rfl, rfl⟩, hs', hv⟩ := q
    exact hK _ _ _ hs' hv
  · obtain ⟨G', env', σ', ⟨he, _⟩, _⟩ := q
    exact absurd he hne
theorem zu {j t : Nat} {want b : Bool} (hj : (all[j]?).bind (·.dst) = some t) (hb : look env t = .bool b) (hw : b = !want) (hd : Nat.ble (d + 1) n = true) (h : DrawD P l n m all ((d, .tup []) :: env) σ os K) :
    DrawD P l n m all env σ (⟨some d, op, ty, pos, after, some (j, want)⟩ :: os) K := og (atp hj hb hw hd) h
theorem aab {t : TypeId} {len : Nat} {parts : Array (Nat × Operand)} {e : TI} {es : List PV} (ht : oq P tt) (he : eti tt t = some e) (hx : Opvs tt env (parts.toList.map (·.2)) es) (hpl : es.all PV.pl = true)
    (hsz : es.all (fun p => Nat.beq p.cells.length e.size) = true) (hbig : Nat.ble (es.length * e.size) 16777216 = true) (hlen : len = parts.toList.length) (hparts : parts.toList.map (·.1) = List.range' 0 parts.toList.length)
    (hd : Nat.ble (d + 1) n = true) (h : DrawD P l n m all ((d, .sl .sh e.size es) :: env) σ os K) : DrawD P l n m all env σ (⟨some d, .buildSlice t len parts, ty, pos, after, none⟩ :: os) K :=
  og (apn ht he hx hpl hsz hbig hlen hparts hd) h
end
end Go.Proofs.Ytbpjaiemlkcccaa.Pv
end
section
/- Rows of which the capacity is known, in boxes: they are cut, copied into, grown; a box that turns no more is read as a row of values. -/
namespace Go.Proofs.Ytbpjaiemlkcccaa.Pv
open Go
section
variable {n m : Nat} {F : Fr} {G : Gh} {env : Env} {σ : Sto} {a : Act} {w : World}
theorem Sim.gone (h : Sim n m F G env σ a w) (k : Nat) : Sim n m F G env (σ.set k .gone) a w := by
  have hget : ∀ (i : Nat) e, (σ.set k .gone)[i]? = some e → (i = k ∧ e = .gone) ∨ σ[i]? = some e := by
    intro i e hi
    rw [List.getElem?_set] at hi
    split at hi
    · rename_i e'; subst e'
      split at hi
      · cases hi; exact .inl ⟨rfl, rfl⟩
      · cases hi
    · exact .inr hi
  have key : ∀ l b, nz G env (σ.set k .gone) a.tmps w l = some b → nz G env σ a.tmps w l = some b := by
    intro l b hl
    cases l with
    | slot t j => exact hl
    | cell i j =>
      simp only [nz] at hl ⊢
      cases hi : (σ.set k .gone)[i]? with
      | none => rw [hi] at hl; cases hl
      | some e =>
        rw [hi] at hl
        rcases hget i e hi with ⟨_, rfl⟩ | h'
        · cases hl
        · rw [h']; exact hl
  refine ⟨h.size, h.rep, fun t => by rw [List.length_set]; exact h.envlt t, fun i e hi => ?_, fun i e hi => ?_, h.kfree, fun i e hi hc => ?_, fun l1 l2 b g1 g2 => h.uniq l1 l2 b (key _ _ g1) (key _ _ g2), fun l b hl => h.fr l b (key _ _ hl), h.frlt, h.marks, h.markF, by rw [List.length_set]; exact h.floor⟩
  · rcases hget i e hi with ⟨_, rfl⟩ | h'
    · trivial
    · exact h.sto i e h'
  · rw [List.length_set]
    rcases hget i e hi with ⟨_, rfl⟩ | h'
    · trivial
    · exact h.stolt i e h'
  · rcases hget i e hi with ⟨_, rfl⟩ | h'
    · rcases hc with ⟨c, e⟩ | ⟨x, y, z, u, e⟩ <;> cases e
    · exact h.inj i e h' hc
end
def akf (i : Nat) (cs : List PV) : Env → Env → Prop
  | [], _ => True
  | (t, p) :: r, env => Frz i cs p (look env t) ∧ akf i cs r env
theorem akf.at {i : Nat} {cs : List PV} : ∀ {e env : Env}, akf i cs e env → ∀ t, Frz i cs (look e t) (look env t)
  | [], _, _, t => .inl rfl
  | (u, p) :: r, env, h, t => by
    rw [qg]
    split
    · rename_i e; subst e; exact h.1
    · exact akf.at h.2 t
def amk (i : Nat) (cs : List PV) : List PV → List PV → Prop
  | [], [] => True
  | p' :: r', p :: r => Frz i cs p' p ∧ amk i cs r' r
  | _, _ => False
theorem amk.get {i : Nat} {cs : List PV} : ∀ {ds' ds : List PV}, amk i cs ds' ds → ds'.length = ds.length ∧ ∀ (k : Nat) c', ds'[k]? = some c' → ∃ c, ds[k]? = some c ∧ Frz i cs c' c
  | [], [], _ => ⟨rfl, fun k c' h => by simp at h⟩
  | p' :: r', p :: r, h => by
    obtain ⟨h1, h2⟩ := amk.get h.2
    refine ⟨by simp [h1], fun k c' hc => ?_⟩
    cases k with
    | zero => simp at hc; subst hc; exact ⟨p, rfl, h.1⟩
    | succ k => simp at hc; simpa using h2 k c' hc
  | [], _ :: _, h => h.elim
  | _ :: _, [], h => h.elim
def ab1 (i : Nat) (cs : List PV) : Sto → Sto → Prop
  | [], [] => True
  | e' :: r', e :: r => (e' = e ∨ ∃ ds ds', e = .cells ds ∧ e' = .cells ds' ∧ amk i cs ds' ds) ∧ ab1 i cs r' r
  | _, _ => False
theorem ab1.get {i : Nat} {cs : List PV} : ∀ {s' s : Sto}, ab1 i cs s' s → s'.length = s.length ∧ ∀ (k : Nat) e', s'[k]? = some e' → ∃ e, s[k]? = some e ∧ axy i cs e' e
  | [], [], _ => ⟨rfl, fun k c' h => by simp at h⟩
  | p' :: r', p :: r, h => by
    obtain ⟨h1, h2⟩ := ab1.get h.2
    refine ⟨by simp [h1], fun k c' hc => ?_⟩
    cases k with
    | zero =>
      simp at hc; subst hc
      refine ⟨p, rfl, ?_⟩
      rcases h.1 with e | ⟨ds, ds', e1, e2, h3⟩
      · exact .inl e
      · exact .inr ⟨ds, ds', e1, e2, h3.get⟩
    | succ k => simp at hc; simpa using h2 k c' hc
  | [], _ :: _, h => h.elim
  | _ :: _, [], h => h.elim
theorem ab1.refl {i : Nat} {cs : List PV} : ∀ s : Sto, ab1 i cs s s
  | [] => trivial
  | e :: r => ⟨.inl rfl, ab1.refl r⟩
theorem ab1.app {i : Nat} {cs : List PV} {s' s : Sto} (h : ab1 i cs s' s) : ∀ τ : Sto, ab1 i cs (τ ++ s') (τ ++ s)
  | [] => h
  | e :: r => ⟨.inl rfl, ab1.app h r⟩
theorem abt {i sz cap : Nat} {es : List PV} (hsz : ∀ e ∈ es, e.cells.length = sz) : Frz i (flat es) (.sl .sh sz es) (.xsl i 0 sz es.length cap) :=
  .inr (.inr ⟨0, sz, es.length, cap, es, .inr rfl, rfl, rfl, hsz, by rw [vg hsz]; omega, fun j c h => by rw [Nat.zero_add]; exact h⟩)
section
variable {P : Program} {l : Option Nat} {tt : TT} {n m : Nat} {all : Array Oper} {rest : List Oper} {env : Env} {σ : Sto} {Q : Post} {d : Nat} {dd : Option Nat} {ty : TypeId} {pos : String} {after : Array Edge} {g : Option (Nat × Bool)}
theorem amq {os : List Oper} (k : Nat) (h : SatOps P l n m all os env (σ.set k .gone) Q) : SatOps P l n m all os env σ Q := ⟨fun F G a w hs => h.go F G a w (hs.gone k)⟩
theorem ab2 {os : List Oper} {i : Nat} {cs rs : List PV} (E' : Env) (σ' : Sto) (hi : σ[i]? = some (.cells (cs ++ rs))) (hpl : ∀ c ∈ cs, c.pl = true) (he : akf i cs E' env) (hσ : ab1 i cs σ' (σ.set i .gone))
    (h : SatOps P l n m all os E' σ' Q) : SatOps P l n m all os env σ Q := by
  refine ⟨fun F G a w hs => ?_⟩
  obtain ⟨h1, h2⟩ := hσ.get
  have hlt := (List.getElem?_eq_some_iff.1 hi).1
  obtain ⟨k1, k2⟩ := hs.freeze (env' := E') (σ' := σ') hi hpl he.at (by rw [h1, List.length_set]) (by
      have h3 : i < σ'.length := by rw [h1, List.length_set]; exact hlt
      obtain ⟨e, e1, e2⟩ := h2 i σ'[i] (by simp [h3])
      rw [List.getElem?_set, if_pos rfl, if_pos hlt] at e1
      cases e1
      rw [List.getElem?_eq_getElem h3]
      rcases e2 with e2 | ⟨ds, _, e2, _⟩
      · rw [e2]
      · cases e2) (fun j e' hj hj' => by
      obtain ⟨e, e1, e2⟩ := h2 j e' hj'
      rw [List.getElem?_set, if_neg (Ne.symm hj)] at e1
      exact ⟨e, e1, e2⟩)
  exact abe k2 _ _ _ (h.go F _ a w k1)
theorem lg (ht : oq P tt) {t : TypeId} {x : Operand} {e : TI} {i off sz len cap : Nat} (he : eti tt t = some e) (hx : opv tt env t x = .xsl i off sz len cap) :
    LookAt P n m env σ ⟨dd, .call ⟨.builtin .cap, #[x], #[t]⟩, ty, pos, after, g⟩ (.int .i64 cap) := by
  refine ⟨fun F G a w hs => ?_⟩
  have hxo := o7 hs tt t x
  rw [hx] at hxo
  obtain ⟨ad, ev, _⟩ := (hxo.toS rfl).xslv
  obtain ⟨eT, hu, hT⟩ := aao ht he
  exact ⟨.int .i64 cap, by simp [execOp, resolve, invoke, builtin, Builtin.cap_, underlying, hu, ev, goInt], .inr (.inl (.pl (.int _ _))), trivial⟩
theorem arf {F : Fr} {G : Gh} {a : Act} {w : World} (hs : Sim n m F G env σ a w) {isS : Bool} {len cap : Nat} {lo hi mx : Option Operand} {l h mm : Int} (hm1 : mx.isSome = true → hi.isSome = true) (hl : aat tt env lo 0 = some l) (hh : aat tt env hi len = some h) (hm : aat tt env mx cap = some mm)
    (h0 : 0 ≤ l) (h1 : l ≤ h) (h2 : h ≤ mm) (h3 : mm ≤ cap) : (Instr.sliceBounds isS len cap (lo.map a.eval) (hi.map a.eval) (mx.map a.eval)).run P w = .ok (l.toNat, h.toNat, mm.toNat) w := by
  cases mx with
  | none =>
    simp only [aat, Option.some.injEq] at hm
    have := agv (P := P) (w := w) (isS := isS) hs hl hh h0 h1 (cap := cap) (by omega)
    rw [show mm.toNat = cap by omega]; exact this
  | some z =>
    cases hi with
    | none => simp at hm1
    | some y => exact an9 hs hl (by simpa [aat] using hh) (by simpa [aat] using hm) h0 h1 h2 (by omega)
theorem ig (ht : oq P tt) {t : TypeId} {x : Operand} {lo hi mx : Option Operand} {e : TI} {i off sz len cap : Nat} {l h mm : Int} (he : eti tt t = some e) (hx : opv tt env t x = .xsl i off sz len cap) (hsz : Nat.beq e.size sz = true)
    (hm1 : (mx.isSome && hi.isNone) = false) (hl : aat tt env lo 0 = some l) (hh : aat tt env hi len = some h) (hm : aat tt env mx cap = some mm) (hc : 0 ≤ l ∧ l ≤ h ∧ h ≤ mm ∧ mm ≤ cap) :
    LookAt P n m env σ ⟨dd, .slice t x lo hi mx, ty, pos, after, g⟩ (.xsl i (off + l.toNat * sz) sz (h.toNat - l.toNat) (mm.toNat - l.toNat)) := by
  refine ⟨fun F G a w hs => ?_⟩
  have hsz := Nat.eq_of_beq_eq_true hsz
  have hxo := o7 hs tt t x
  have hxl := yf hs tt t x
  rw [hx] at hxo hxl
  obtain ⟨ad, ex, c1, c3⟩ := (hxo.toS rfl).xslv
  obtain ⟨eT, hu, hT⟩ := aao ht he
  obtain ⟨h1, h2, h3, h4⟩ := hc
  have hb := arf (P := P) hs (isS := true) (by intro h; cases mx <;> cases hi <;> simp_all) hl hh hm h1 h2 h3 h4
  have hz := hT.rsize w
  refine ⟨.slice (if mm.toNat = l.toNat then ad else ad.map (·.add (l.toNat * sz))) (h.toNat - l.toNat) (mm.toNat - l.toNat), ?_, .inr (.inl (.xsl _ _ _ _ _ _ (by omega) ?_)), ?_⟩
  · simp [execOp, ex, Instr.sliceAt, Instr.slice, underlying, hu, hb, hz, hsz]
  · by_cases h0 : mm.toNat - l.toNat = 0
    · exact .inl h0
    · obtain ⟨c3, c4⟩ := c3.resolve_left (by omega)
      exact .inr ⟨by rw [if_neg (by omega), c3]; simp [aai], c4⟩
  · simp only [PV.lt] at hxl ⊢; omega
end
end Go.Proofs.Ytbpjaiemlkcccaa.Pv
end
section
/- Rows of known capacity: copies, appends; elements of several cells, read and written. -/
namespace Go.Proofs.Ytbpjaiemlkcccaa.Pv
open Go
inductive SrcQ (σ : Sto) (sz : Nat) : PV → Nat → Nat → List PV → Prop
  | sl (es : List PV) : SrcQ σ sz (.sl .sh sz es) es.length es.length (flat es)
  | row (i off k q cap : Nat) (cs : List PV) (hi : σ[i]? = some (.cells cs)) (hq : q ≤ k) (hle : off + q * sz ≤ cs.length) (hS : ((cs.drop off).take (q * sz)).all PV.isS = true) : SrcQ σ sz (.xsl i off sz k cap) k q ((cs.drop off).take (q * sz))
  | none (i off cap : Nat) : SrcQ σ sz (.xsl i off sz 0 cap) 0 0 []
abbrev aev (σ : Sto) (sz : Nat) (p : PV) (k : Nat) (ys : List PV) : Prop := SrcQ σ sz p k k ys
theorem aev.sl {σ : Sto} {sz : Nat} (es : List PV) : aev σ sz (.sl .sh sz es) es.length (flat es) := SrcQ.sl es
theorem aev.row {σ : Sto} {sz : Nat} (i off k cap : Nat) (cs : List PV) (hi : σ[i]? = some (.cells cs)) (hle : off + k * sz ≤ cs.length) (hS : ((cs.drop off).take (k * sz)).all PV.isS = true) : aev σ sz (.xsl i off sz k cap) k ((cs.drop off).take (k * sz)) := SrcQ.row i off k k cap cs hi (Nat.le_refl _) hle hS
theorem aev.none {σ : Sto} {sz : Nat} (i off cap : Nat) : aev σ sz (.xsl i off sz 0 cap) 0 [] := SrcQ.none i off cap
theorem aie {P : Program} {w : World} {sz q len cap : Nat} {ad : Addr} (vs : Nat → Value) (hs : ad.spot = none) (hv : ∀ j, j < q * sz → w.cell? ⟨ad.block, ad.off + j, none⟩ = some (vs j)) :
    (Builtin.firstCells sz q (.slice (some ad) len cap)).run P w = .ok ((List.range (q * sz)).map vs).toArray w := by
  simp only [Builtin.firstCells]
  exact run_loadCells w ad (q * sz) vs fun j hj => by rw [aai hs]; exact hv j hj
theorem afc {P : Program} {w : World} {sz len cap : Nat} {ad : Option Addr} : (Builtin.firstCells sz 0 (.slice ad len cap)).run P w = .ok #[] w := by
  cases ad <;> simp [Builtin.firstCells, loadCells, loadCellsFrom]
section
variable {P : Program} {n m : Nat} {F : Fr} {G : Gh} {env : Env} {σ : Sto} {a : Act} {w : World}
theorem am2 (hs : Sim n m F G env σ a w) {v : Value} {p : PV} {sz k q0 : Nat} {ys : List PV} (hr : adk G w v p) (h : SrcQ σ sz p k q0 ys) :
    (∀ w', (Builtin.lenOf v).run P w' = .ok k w') ∧ ys.length = q0 * sz ∧ q0 ≤ k ∧ ∀ q, q ≤ q0 → ∃ news : Array Value, (Builtin.firstCells sz q v).run P w = .ok news w ∧ (Builtin.firstCells sz q v).run P w.drew = .ok news w.drew ∧ news.size = q * sz ∧
      ∀ (j : Nat) u c, news[j]? = some u → (ys.take (q * sz))[j]? = some c → RepS G w u c ∧ c.lt σ.length := by
  cases h with
  | sl es =>
    obtain ⟨ad, cap, rfl, h'⟩ := ((hr.toS rfl).slv).slv
    rcases h' with rfl | ⟨ad, p, vs, rfl, hsp, hK, hp, hc, hsz, hv, hrr⟩
    · refine ⟨fun w' => rfl, by simp [flat], Nat.le_refl _, fun q hq => ?_⟩
      have : q = 0 := by simpa using hq
      subst this
      exact ⟨#[], afc, afc, by simp, fun j u c hj => by simp at hj⟩
    · refine ⟨fun w' => rfl, vg hsz, Nat.le_refl _, fun q hq => ?_⟩
      have hmul : q * sz ≤ es.length * sz := Nat.mul_le_mul_right _ hq
      refine ⟨_, aie vs hsp (fun j hj => hv j (by omega)), aie vs hsp (fun j hj => hv j (by omega)), by simp, fun j u c hj hcc => ?_⟩
      rw [List.getElem?_take] at hcc
      split at hcc
      · rename_i hjq
        simp [hjq] at hj
        subst hj
        have := hrr j c hcc
        exact ⟨.pl this, this.lt _⟩
      · cases hcc
  | row i off k q0 cap cs hi hqk hle hS =>
    obtain ⟨ad, rfl, c1, c3⟩ := (hr.toS rfl).xslv
    have hlen : ((cs.drop off).take (q0 * sz)).length = q0 * sz := by rw [List.length_take, List.length_drop]; omega
    refine ⟨fun w' => rfl, hlen, hqk, fun q hq => ?_⟩
    by_cases hk : q0 = 0
    · have : q = 0 := by omega
      subst this
      exact ⟨#[], afc, afc, by simp, fun j u c hj => by simp at hj⟩
    · obtain ⟨c3, _⟩ := c3.resolve_left (by omega)
      subst c3
      obtain ⟨hK, hsp, hcell⟩ := hs.sto i _ hi
      have hst := hs.stolt i _ hi
      simp only [Ent.lt] at hst
      have hmul : q * sz ≤ q0 * sz := Nat.mul_le_mul_right _ hq
      have hvals : ∀ j : Nat, ∃ v, j < q0 * sz → w.cell? ⟨G.bs i, off + j, none⟩ = some v ∧ ∀ c, cs[off + j]? = some c → RepS G w v c ∧ c.lt σ.length := by
        intro j
        by_cases hj : j < q0 * sz
        · have hlt : off + j < cs.length := by omega
          obtain ⟨v, h1, h2⟩ := hcell (off + j) cs[off + j] (by simp [hlt])
          refine ⟨v, fun _ => ⟨h1, fun c hc => ?_⟩⟩
          have hcc : c = cs[off + j] := by simpa [hlt] using hc.symm
          subst hcc
          have hiS := List.all_eq_true.1 hS cs[off + j] (List.mem_of_getElem? (i := j) (by rw [List.getElem?_take, if_pos hj, List.getElem?_drop]; exact hc))
          exact ⟨h2.toS hiS, mo.1 hst _ (List.getElem_mem hlt)⟩
        · exact ⟨undef, fun h => absurd h hj⟩
      obtain ⟨vs, hvs⟩ := Classical.axiomOfChoice hvals
      refine ⟨_, aie vs rfl (fun j hj => (hvs j (by omega)).1), aie vs rfl (fun j hj => (hvs j (by omega)).1), by simp, fun j u c hj hcc => ?_⟩
      rw [List.getElem?_take] at hcc
      split at hcc
      · rename_i hjq
        simp [hjq] at hj
        subst hj
        rw [List.getElem?_take, if_pos (by omega), List.getElem?_drop] at hcc
        exact (hvs j (by omega)).2 c hcc
      · cases hcc
  | none i off cap =>
    obtain ⟨ad, rfl, c1, c3⟩ := (hr.toS rfl).xslv
    refine ⟨fun w' => rfl, by simp, Nat.le_refl _, fun q hq => ?_⟩
    have : q = 0 := by omega
    subst this
    exact ⟨#[], afc, afc, by simp, fun j u c hj => by simp at hj⟩
theorem aff (hs : Sim n m F G env σ a w) {v : Value} {p : PV} {sz k : Nat} {ys : List PV} (hr : adk G w v p) (h : aev σ sz p k ys) :
    (∀ w', (Builtin.lenOf v).run P w' = .ok k w') ∧ ys.length = k * sz ∧ ∀ q, q ≤ k → ∃ news : Array Value, (Builtin.firstCells sz q v).run P w = .ok news w ∧ (Builtin.firstCells sz q v).run P w.drew = .ok news w.drew ∧ news.size = q * sz ∧
      ∀ (j : Nat) u c, news[j]? = some u → (ys.take (q * sz))[j]? = some c → RepS G w u c ∧ c.lt σ.length :=
  let ⟨h1, h2, _, h3⟩ := am2 hs hr h; ⟨h1, h2, h3⟩
theorem aes (l : List PV) (o : Nat) : putAt l o [] = l := by cases l <;> cases o <;> rfl
theorem ai5 {i : Nat} {e : Ent} (hi : σ[i]? = some e) : σ.set i e = σ := by
  refine List.ext_getElem? fun j => ?_
  rw [List.getElem?_set]
  split
  · rename_i e'; subst e'; rw [hi]; simp [(List.getElem?_eq_some_iff.1 hi).1]
  · rfl
theorem anx {tS tX eT ty : TypeId} {e : TI} (hu : P.underlying tS = some (.slice eT)) (hT : TyOK P eT e) {uX : TypeDesc} (hX : P.underlying tX = some uX) (hXi : ∀ k, uX ≠ .int k)
    {base : Option Addr} {sLen sCap k : Nat} {x : Value} {news : Array Value} (hlen : ∀ w', (Builtin.lenOf x).run P w' = .ok k w') (hf : (Builtin.firstCells e.size k x).run P w = .ok news w) (hfD : (Builtin.firstCells e.size k x).run P w.drew = .ok news w.drew) (olds : Array Value)
    (hold : (Builtin.firstCells e.size sLen (.slice base sLen sCap)).run P w.drew = .ok olds w.drew) (hle : sLen ≤ sCap) (h63 : sLen + k ≤ 9223372036854775807) (hfit : (sLen + k) * e.bytes ≤ 140737488355328) :
    (sLen + k ≤ sCap → (Builtin.append_ #[tS, tX] ty #[.slice base sLen sCap, x]).run P w =
      ((match base with | some a => storeCells (a.add (sLen * e.size)) news.toList | none => pure ()).run P w).andThen fun _ w' => .ok (.slice base (sLen + k) sCap) w') ∧
    (¬ sLen + k ≤ sCap → ∃ zs : Array Value, zs.size = (grownCap w (sLen + k) sCap eT - (sLen + k)) * e.size ∧ (Builtin.append_ #[tS, tX] ty #[.slice base sLen sCap, x]).run P w =
      .ok (.slice (some ⟨w.heap.size, 0, none⟩) (sLen + k) (grownCap w (sLen + k) sCap eT)) (w.drew.alloc (.cells (olds ++ news ++ zs) eT))) := by
  obtain ⟨info, z, hi1, hi2, hi3, hi4, hi5⟩ := hT.inf
  have hzs : ((uX matches .int _) : Bool) = false := by cases uX <;> first | rfl | exact absurd rfl (hXi _)
  have hsize : ∀ w', (sizeOf eT).run P w' = .ok e.size w' := hT.rsize
  constructor
  · intro hfits
    simp only [Builtin.append_, List.getElem?_toArray, List.getElem?_cons_zero, List.getElem?_cons_succ, Sem.run_bind, underlying, hu, hX, run_program, Result.andThen_ok, Sem.run_pure, hsize, hzs, hlen, hfits, if_true, hf, Bool.false_eq_true, if_false, Bool.not_false]
    cases base <;> simp
  · intro hfits
    have hns : Builtin.nextslicecap (sLen + k) sCap * e.bytes ≤ 281474976710656 := by
      have := nextslicecap_le (need := sLen + k) (old := sCap) (by omega)
      calc _ ≤ 2 * (sLen + k) * e.bytes := Nat.mul_le_mul_right _ this
        _ = 2 * ((sLen + k) * e.bytes) := Nat.mul_assoc _ _ _
        _ ≤ _ := by omega
    have hz : z.cells.size = e.size := by
      have := (afb hi5).1
      rw [← hT.zl, ← this]; simp
    refine ⟨Builtin.zeroCells z.cells (grownCap w (sLen + k) sCap eT - (sLen + k)), by rw [size_zeroCells, hz], ?_⟩
    have h1 : ¬ ((sLen + k : Nat) : Int) > IntKind.i64.max := by simp only [IntKind.max, IntKind.signed, IntKind.bits, if_true]; omega
    have h2 : ¬ Builtin.nextslicecap (sLen + k) sCap * info.bytes > 2 ^ 48 := by rw [hi3]; omega
    simp only [Builtin.append_, List.getElem?_toArray, List.getElem?_cons_zero, List.getElem?_cons_succ, Sem.run_bind, underlying, hu, hX, run_program, Result.andThen_ok, Sem.run_pure, hsize, hzs, hlen, hfits, Bool.false_eq_true, if_false, Bool.not_false, typeInfo, hi1, h1, false_and, h2, run_choose, Question.forced]
    have hd : ({ heap := w.heap, tape := w.tape, drawn := w.drawn + 1, os := w.os, output := w.output } : World) = w.drew := rfl
    have hgc : (Question.appendCap (sLen + k) sCap eT).cut (w.tape w.drawn (Question.appendCap (sLen + k) sCap eT)) = grownCap w (sLen + k) sCap eT := rfl
    have hzr : (zeroValue eT).run P w.drew = .ok z w.drew := by simp [zeroValue, typeInfo, hi1, hi4]
    rw [hd, hgc, run_askRoom, Result.andThen_ok, hold, Result.andThen_ok, if_pos trivial, hfD, Result.andThen_ok, hzr, Result.andThen_ok]
    simp only [newRow, Sem.run_bind, run_newObj, Result.andThen_ok, Sem.run_pure]
    rfl
theorem an1 {tS tX eT ty : TypeId} {e : TI} (hu : P.underlying tS = some (.slice eT)) (hT : TyOK P eT e) {kX : IntKind} (hX : P.underlying tX = some (.int kX))
    {base : Option Addr} {sLen sCap k : Nat} {kz : IntKind} (olds : Array Value)
    (hold : (Builtin.firstCells e.size sLen (.slice base sLen sCap)).run P w.drew = .ok olds w.drew) (hle : sLen ≤ sCap) (h63 : sLen + k ≤ 9223372036854775807) (hfit : (sLen + k) * e.bytes ≤ 140737488355328) (hroom : ¬ sLen + k ≤ sCap) :
    ∃ zs : Array Value, zs.size = (grownCap w (sLen + k) sCap eT - sLen) * e.size ∧ (Builtin.append_ #[tS, tX] ty #[.slice base sLen sCap, .int kz (k : Int)]).run P w =
      .ok (.slice (some ⟨w.heap.size, 0, none⟩) (sLen + k) (grownCap w (sLen + k) sCap eT)) (w.drew.alloc (.cells (olds ++ zs) eT)) := by
  obtain ⟨info, z, hi1, hi2, hi3, hi4, hi5⟩ := hT.inf
  have hsize : ∀ w', (sizeOf eT).run P w' = .ok e.size w' := hT.rsize
  have hns : Builtin.nextslicecap (sLen + k) sCap * e.bytes ≤ 281474976710656 := by
    have := nextslicecap_le (need := sLen + k) (old := sCap) (by omega)
    calc _ ≤ 2 * (sLen + k) * e.bytes := Nat.mul_le_mul_right _ this
      _ = 2 * ((sLen + k) * e.bytes) := Nat.mul_assoc _ _ _
      _ ≤ _ := by omega
  have hz : z.cells.size = e.size := by
    have := (afb hi5).1
    rw [← hT.zl, ← this]; simp
  have hge : sLen + k ≤ grownCap w (sLen + k) sCap eT := grownCap_ge _ _ _ _
  have hwr : IntKind.i64.wrap (k : Int) = (k : Int) := acu (by simp only [InR]; omega)
  have h0 : ¬ ((k : Int) < 0) := by omega
  have hkb : k * e.bytes ≤ 140737488355328 := Nat.le_trans (Nat.mul_le_mul_right _ (Nat.le_add_left _ _)) hfit
  have h0b : ¬ ((k : Int) * (info.bytes : Int) > 2 ^ 48) := by
    rw [hi3]
    have : ((k : Int) * (e.bytes : Int)) = ((k * e.bytes : Nat) : Int) := by simp
    rw [this]; omega
  have h1 : ¬ ((sLen + k : Nat) : Int) > IntKind.i64.max := by simp only [IntKind.max, IntKind.signed, IntKind.bits, if_true]; omega
  have h2 : ¬ Builtin.nextslicecap (sLen + k) sCap * info.bytes > 2 ^ 48 := by rw [hi3]; omega
  have hd : ({ heap := w.heap, tape := w.tape, drawn := w.drawn + 1, os := w.os, output := w.output } : World) = w.drew := rfl
  have hgc : (Question.appendCap (sLen + k) sCap eT).cut (w.tape w.drawn (Question.appendCap (sLen + k) sCap eT)) = grownCap w (sLen + k) sCap eT := rfl
  have hzr : ∀ w', (zeroValue eT).run P w' = .ok z w' := fun w' => by simp [zeroValue, typeInfo, hi1, hi4]
  by_cases hk0 : k * e.size = 0
  · refine ⟨#[] ++ Builtin.zeroCells z.cells (grownCap w (sLen + k) sCap eT - (sLen + k)), ?_, ?_⟩
    · rw [Array.size_append, size_zeroCells, hz]
      have : k = 0 ∨ e.size = 0 := Nat.mul_eq_zero.1 hk0
      rcases this with h | h
      · simp [h]
      · simp [h]
    · simp only [Builtin.append_, List.getElem?_toArray, List.getElem?_cons_zero, List.getElem?_cons_succ, Sem.run_bind, underlying, hu, hX, run_program, Result.andThen_ok, Sem.run_pure, hsize, if_true, asInt, asIntOf, hwr, h0, if_false, typeInfo, hi1, h0b, Int.toNat_natCast, hroom, h1, false_and, h2, run_choose, Question.forced, Bool.not_true, Bool.false_eq_true]
      rw [hd, hgc, run_askRoom, Result.andThen_ok, hold, Result.andThen_ok, if_pos hk0]
      simp only [Sem.run_pure, Result.andThen_ok, hzr, newRow, Sem.run_bind, run_newObj]
      rw [Array.append_assoc]
      rfl
  · refine ⟨Builtin.zeroCells z.cells k ++ Builtin.zeroCells z.cells (grownCap w (sLen + k) sCap eT - (sLen + k)), ?_, ?_⟩
    · rw [Array.size_append, size_zeroCells, size_zeroCells, hz, ← Nat.add_mul]; congr 1; omega
    · simp only [Builtin.append_, List.getElem?_toArray, List.getElem?_cons_zero, List.getElem?_cons_succ, Sem.run_bind, underlying, hu, hX, run_program, Result.andThen_ok, Sem.run_pure, hsize, if_true, asInt, asIntOf, hwr, h0, if_false, typeInfo, hi1, h0b, Int.toNat_natCast, hroom, h1, false_and, h2, run_choose, Question.forced, Bool.not_true, Bool.false_eq_true]
      rw [hd, hgc, run_askRoom, Result.andThen_ok, hold, Result.andThen_ok, if_neg hk0]
      simp only [Sem.run_pure, Result.andThen_ok, hzr, newRow, Sem.run_bind, run_newObj]
      rw [Array.append_assoc]
      rfl
end
section
variable {P : Program} {l : Option Nat} {tt : TT} {n m : Nat} {all : Array Oper} {rest : List Oper} {env : Env} {σ : Sto} {Q : Post} {d : Nat} {dd : Option Nat} {ty : TypeId} {pos : String} {after : Array Edge} {g : Option (Nat × Bool)}
theorem ag8 (ht : oq P tt) {tD tS : TypeId} {x y : Operand} {e : TI} {i off sz len cap k q0 : Nat} {cs ys : List PV} {q : PV} (he : eti tt tD = some e) (hsz : Nat.beq e.size sz = true)
    (hx : opv tt env tD x = .xsl i off sz len cap) (hi : σ[i]? = some (.cells cs)) (hq : opv tt env tS y = q) (hy : SrcQ σ sz q k q0 ys) (hq0 : min k len ≤ q0) (hle : off + len * sz ≤ cs.length) (h1 : ys.all PV.one = true) (hd : Nat.ble (d + 1) n = true)
    (h : SatOps P l n m all rest ((d, .int .i64 (min k len : Nat)) :: env) (σ.set i (.cells (putAt cs off (ys.take (min k len * sz))))) Q) :
    SatOps P l n m all (⟨some d, .call ⟨.builtin .copy, #[x, y], #[tD, tS]⟩, ty, pos, after, none⟩ :: rest) env σ Q := by
  refine ym rfl (by simp) fun F G a w hs => ?_
  have hsz := Nat.eq_of_beq_eq_true hsz
  have hxo := o7 hs tt tD x
  have hyo := o7 hs tt tS y
  rw [hx] at hxo
  rw [hq] at hyo
  obtain ⟨ad, ex, c1, c3⟩ := (hxo.toS rfl).xslv
  obtain ⟨eT, hu, hT⟩ := aao ht he
  obtain ⟨r1, r2, _, r3⟩ := am2 (P := P) hs hyo hy
  obtain ⟨news, r3, _, r4, r5⟩ := r3 (min k len) hq0
  have hz := hT.rsize w
  have hmul : min k len * sz ≤ q0 * sz := Nat.mul_le_mul_right _ hq0
  have hmul2 : min k len * sz ≤ len * sz := Nat.mul_le_mul_right _ (Nat.min_le_right _ _)
  have hlen : (ys.take (min k len * sz)).length = min k len * sz := by rw [List.length_take, r2]; omega
  have fin : ∀ w', (execOp a.eval ⟨some d, .call ⟨.builtin .copy, #[x, y], #[tD, tS]⟩, ty, pos, after, none⟩).run P w = .ok (.value (.int .i64 (min k len : Nat))) w' → Sim n m F G env (σ.set i (.cells (putAt cs off (ys.take (min k len * sz))))) a w' → Evol m F G w G w' → ∃ v w' G' env' σ', ((execOp a.eval ⟨some d, .call ⟨.builtin .copy, #[x, y], #[tD, tS]⟩, ty, pos, after, none⟩).run P w = .ok (.value v) w' ∨ ((execOp a.eval ⟨some d, .call ⟨.builtin .copy, #[x, y], #[tD, tS]⟩, ty, pos, after, none⟩).run P w = .ok .skip w' ∧ v = undef)) ∧
      Sim n m F G' env' σ' (a.put (some d) v) w' ∧ Evol m F G w G' w' ∧ SatOps P l n m all rest env' σ' Q := fun w' hrun hsim hev =>
    ⟨_, w', G, _, _, .inl hrun, hsim.setS (ltn hd) (.pl (.int _ _)) trivial, hev, h⟩
  by_cases h0 : min k len = 0
  · have hn : news = #[] := Array.eq_empty_of_size_eq_zero (by rw [r4, h0, Nat.zero_mul])
    subst hn
    have hσ : σ.set i (.cells (putAt cs off (ys.take (min k len * sz)))) = σ := by rw [h0, Nat.zero_mul, List.take_zero, aes]; exact ai5 hi
    refine fin w ?_ (by rw [hσ]; exact hs) (.refl _ _ _ _)
    have hm : Nat.min k len = 0 := h0
    rw [h0] at r3 ⊢
    cases ad <;> simp [execOp, resolve, invoke, builtin, Builtin.copy_, underlying, hu, ex, r1, hm, hz, hsz, r3, storeCells, goInt]
  · have hl0 : len ≠ 0 := fun e => h0 (by rw [e]; simp)
    obtain ⟨c3, _⟩ := c3.resolve_left (by omega)
    subst c3
    obtain ⟨w1, w2, w3⟩ := hs.boxWrite (P := P) hi off news.toList (ys.take (min k len * sz)) (by rw [hlen]; simpa using r4) (fun j v c hv hc => (r5 j v c (by simpa using hv) hc).1) (by
        rw [mo]; intro p hp
        obtain ⟨j, hj, rfl⟩ := List.getElem_of_mem hp
        have hj' : j < news.size := by rw [r4, ← hlen]; exact hj
        exact (r5 j news[j] _ (by simp [hj']) (List.getElem?_eq_getElem hj)).2) (by
        rw [List.all_eq_true] at h1 ⊢; intro p hp; exact h1 p (List.mem_of_mem_take hp)) (by rw [hlen]; omega)
    refine fin _ ?_ w2 w3
    have hm : Nat.min k len = min k len := rfl
    simp [execOp, resolve, invoke, builtin, Builtin.copy_, underlying, hu, ex, r1, hm, hz, hsz, r3, w1, goInt]
theorem ajw (ht : oq P tt) {tS tX : TypeId} {x y : Operand} {e iX : TI} {eX i off sz len cap k : Nat} {cs ys : List PV} {q : PV} (he : eti tt tS = some e) (hsz : Nat.beq e.size sz = true) (hX : tl tt tX = some iX) (hXi : iX.desc = .slice eX)
    (hx : opv tt env tS x = .xsl i off sz len cap) (hi : σ[i]? = some (.cells cs)) (hq : opv tt env tX y = q) (hy : aev σ sz q k ys) (hroom : len + k ≤ cap) (hle : off + (len + k) * sz ≤ cs.length) (h1 : ys.all PV.one = true)
    (hfit : (len + k) * (e.bytes + 1) ≤ 140737488355328) (hd : Nat.ble (d + 1) n = true)
    (h : SatOps P l n m all rest ((d, .xsl i off sz (len + k) cap) :: env) (σ.set i (.cells (putAt cs (off + len * sz) ys))) Q) :
    SatOps P l n m all (⟨some d, .call ⟨.builtin .append, #[x, y], #[tS, tX]⟩, ty, pos, after, none⟩ :: rest) env σ Q := by
  refine ym rfl (by simp) fun F G a w hs => ?_
  have hsz := Nat.eq_of_beq_eq_true hsz
  have hxo := o7 hs tt tS x
  have hxl := yf hs tt tS x
  have hyo := o7 hs tt tX y
  rw [hx] at hxo hxl
  rw [hq] at hyo
  obtain ⟨ad, ex, c1, c3⟩ := (hxo.toS rfl).xslv
  obtain ⟨eT, hu, hT⟩ := aao ht he
  subst hsz
  obtain ⟨r1, r2, r3⟩ := aff (P := P) hs hyo hy
  obtain ⟨news, r3, r3D, r4, r5⟩ := r3 k (Nat.le_refl _)
  rw [← r2, List.take_length] at r5
  rw [Nat.mul_add, Nat.mul_one] at hfit
  -- what lay there is not looked at
  have hin : (Builtin.append_ #[tS, tX] ty #[.slice ad len cap, a.eval y]).run P w =
      ((match ad with | some b => storeCells (b.add (len * e.size)) news.toList | none => pure ()).run P w).andThen fun _ w' => .ok (.slice ad (len + k) cap) w' := by
    have hX' := (ht _ _ hX).und
    rw [hXi] at hX'
    have hsize : ∀ w', (sizeOf eT).run P w' = .ok e.size w' := hT.rsize
    simp only [Builtin.append_, List.getElem?_toArray, List.getElem?_cons_zero, List.getElem?_cons_succ, Sem.run_bind, underlying, hu, hX', run_program, Result.andThen_ok, Sem.run_pure, hsize, r1, hroom, if_true, r3, Bool.false_eq_true, if_false, Bool.not_false]
    cases ad <;> simp
  have fin : ∀ w', (Builtin.append_ #[tS, tX] ty #[.slice ad len cap, a.eval y]).run P w = .ok (.slice ad (len + k) cap) w' → Sim n m F G env (σ.set i (.cells (putAt cs (off + len * e.size) ys))) a w' → Evol m F G w G w' → ∃ v w' G' env' σ', ((execOp a.eval ⟨some d, .call ⟨.builtin .append, #[x, y], #[tS, tX]⟩, ty, pos, after, none⟩).run P w = .ok (.value v) w' ∨ ((execOp a.eval ⟨some d, .call ⟨.builtin .append, #[x, y], #[tS, tX]⟩, ty, pos, after, none⟩).run P w = .ok .skip w' ∧ v = undef)) ∧
      Sim n m F G' env' σ' (a.put (some d) v) w' ∧ Evol m F G w G' w' ∧ SatOps P l n m all rest env' σ' Q := fun w' hrun hsim hev =>
    ⟨_, w', G, _, _, .inl (by simp [execOp, resolve, invoke, builtin, ex, hrun]), hsim.setS (ltn hd) (.xsl _ _ _ _ _ _ hroom c3) (by simp only [PV.lt, List.length_set] at hxl ⊢; exact hxl), hev, h⟩
  by_cases h0 : k = 0
  · subst h0
    have hn : news = #[] := Array.eq_empty_of_size_eq_zero (by rw [r4, Nat.zero_mul])
    subst hn
    have hy0 : ys = [] := List.length_eq_zero_iff.1 (by rw [r2, Nat.zero_mul])
    subst hy0
    have hσ : σ.set i (.cells (putAt cs (off + len * e.size) [])) = σ := by rw [aes]; exact ai5 hi
    refine fin w ?_ (by rw [hσ]; exact hs) (.refl _ _ _ _)
    rw [hin]
    cases ad <;> simp [storeCells]
  · obtain ⟨c3', _⟩ := c3.resolve_left (by omega)
    subst c3'
    obtain ⟨w1, w2, w3⟩ := hs.boxWrite (P := P) hi (off + len * e.size) news.toList ys (by rw [r2]; simpa using r4) (fun j v c hv hc => (r5 j v c (by simpa using hv) hc).1) (by
        rw [mo]; intro p hp
        obtain ⟨j, hj, rfl⟩ := List.getElem_of_mem hp
        have hj' : j < news.size := by rw [r4, ← r2]; exact hj
        exact (r5 j news[j] _ (by simp [hj']) (List.getElem?_eq_getElem hj)).2) h1 (by rw [r2, Nat.add_assoc, ← Nat.add_mul]; exact hle)
    refine fin _ ?_ w2 w3
    rw [hin]
    simp only [aai, w1, Result.andThen_ok]
theorem ab7 (ht : oq P tt) {tS tX : TypeId} {x y : Operand} {e iX : TI} {eX i off sz len cap k : Nat} {zs ys : List PV} {q : PV} (he : eti tt tS = some e) (hsz : Nat.beq e.size sz = true) (hX : tl tt tX = some iX) (hXi : iX.desc = .slice eX)
    (hx : opv tt env tS x = .xsl i off sz len cap) (hb : aev σ sz (.xsl i off sz len cap) len zs) (hq : opv tt env tX y = q) (hy : aev σ sz q k ys) (hroom : cap < len + k)
    (hfit : (len + k) * (e.bytes + 1) ≤ 140737488355328) (hd : Nat.ble (d + 1) n = true)
    (h : ∀ c, len + k ≤ c → SatOps P l n m all rest ((d, .xsl σ.length 0 sz (len + k) c) :: env) (σ ++ [.cells (zs ++ ys ++ List.replicate ((c - (len + k)) * sz) .dead)]) Q) :
    SatOps P l n m all (⟨some d, .call ⟨.builtin .append, #[x, y], #[tS, tX]⟩, ty, pos, after, none⟩ :: rest) env σ Q := by
  refine ym rfl (by simp) fun F G a w hs => ?_
  have hsz := Nat.eq_of_beq_eq_true hsz
  have hxo := o7 hs tt tS x
  have hyo := o7 hs tt tX y
  rw [hx] at hxo
  rw [hq] at hyo
  obtain ⟨ad, ex, c1, c3⟩ := (hxo.toS rfl).xslv
  obtain ⟨eT, hu, hT⟩ := aao ht he
  subst hsz
  obtain ⟨r1, r2, r3⟩ := aff (P := P) hs hyo hy
  obtain ⟨news, r3, r3D, r4, r5⟩ := r3 k (Nat.le_refl _)
  rw [← r2, List.take_length] at r5
  obtain ⟨b1, b2, b3⟩ := aff (P := P) hs hxo hb
  obtain ⟨olds, b3, b3D, b4, b5⟩ := b3 len (Nat.le_refl _)
  rw [← b2, List.take_length] at b5
  rw [Nat.mul_add, Nat.mul_one] at hfit
  rw [ex] at b3D
  obtain ⟨zv, hzv, hrun⟩ := (anx (w := w) (ty := ty) hu hT (ht _ _ hX).und (by rw [hXi]; simp) r1 r3 r3D olds b3D c1 (by omega) (by omega)).2 (by omega)
  have hge : len + k ≤ grownCap w (len + k) cap eT := grownCap_ge _ _ _ _
  have hs0 := hs.drew
  have hzl : zs.length = olds.size := by rw [b2, b4]
  have hyl : ys.length = news.size := by rw [r2, r4]
  have hget : ∀ (j : Nat) v c, (olds ++ news ++ zv)[j]? = some v → (zs ++ ys ++ List.replicate ((grownCap w (len + k) cap eT - (len + k)) * e.size) PV.dead)[j]? = some c → c = .dead ∨ (RepS G w v c ∧ c.lt σ.length) := by
    intro j v c hv hc
    rw [List.append_assoc] at hc
    rw [Array.append_assoc] at hv
    by_cases h1 : j < zs.length
    · rw [List.getElem?_append_left h1] at hc
      rw [Array.getElem?_append_left (by omega)] at hv
      exact .inr (b5 j v c hv hc)
    · rw [List.getElem?_append_right (by omega)] at hc
      rw [Array.getElem?_append_right (by omega)] at hv
      by_cases h2 : j - zs.length < ys.length
      · rw [List.getElem?_append_left h2] at hc
        rw [Array.getElem?_append_left (by omega)] at hv
        exact .inr (r5 _ v c (by rw [hzl]; exact hv) hc)
      · rw [List.getElem?_append_right (by omega)] at hc
        exact .inl (List.eq_of_mem_replicate (List.mem_of_getElem? hc))
  have hs1 := hs0.box (olds ++ news ++ zv) eT (zs ++ ys ++ List.replicate ((grownCap w (len + k) cap eT - (len + k)) * e.size) PV.dead) (by simp only [List.length_append, List.length_replicate, Array.size_append, hzv, hzl, hyl]; exact Nat.le_refl _) (by
      rw [mo]; intro p hp
      obtain ⟨j, hj, rfl⟩ := List.getElem_of_mem hp
      have hj' : j < (olds ++ news ++ zv).size := by
        simp only [List.length_append, List.length_replicate] at hj
        simp only [Array.size_append, hzv, ← hzl, ← hyl]; exact hj
      rcases hget j _ _ (Array.getElem?_eq_getElem hj') (List.getElem?_eq_getElem hj) with e | ⟨_, e⟩
      · rw [e]; trivial
      · exact e) (fun j v c hv hc => by
      rcases hget j v c hv hc with rfl | ⟨e, e2⟩
      · exact .dead _
      · exact .sh (e.mono (n := σ.length) (fun _ p h => ⟨p, ⟨Nat.le_refl _, rfl⟩, h, fun _ _ => rfl⟩) (fun _ _ => rfl) e2)) (.of_sh fun j v c hv hc => by
      rcases hget j v c hv hc with rfl | ⟨e, _⟩
      · exact aaf _
      · exact yz e)
  refine ⟨.slice (some ⟨w.heap.size, 0, none⟩) (len + k) (grownCap w (len + k) cap eT), _, _, _, _, .inl (aid (by rw [ex]; exact hrun)), hs1.setS (ltn hd) (.xsl _ σ.length 0 e.size _ _ hge (.inr ⟨?_, ?_⟩)) (.inr (by simp)), (Evol.drew hs).trans (Evol.alloc hs0 _ _ _ fun i hi => upd_ne _ _ (by have := hs.floor; omega)), h _ hge⟩
  · simp only [upd_same]; rfl
  · simp only [upd_same]
theorem apo (ht : oq P tt) {tS tX : TypeId} {x y : Operand} {e iX : TI} {kX kz : IntKind} {i off sz len cap : Nat} {z : Int} {zs : List PV} (he : eti tt tS = some e) (hsz : Nat.beq e.size sz = true) (hX : tl tt tX = some iX) (hXi : iX.desc = .int kX)
    (hx : opv tt env tS x = .xsl i off sz len cap) (hb : aev σ sz (.xsl i off sz len cap) len zs) (hq : opv tt env tX y = .int kz z) (h0 : 0 ≤ z) (hroom : cap < len + z.toNat)
    (hfit : (len + z.toNat) * (e.bytes + 1) ≤ 140737488355328) (hd : Nat.ble (d + 1) n = true)
    (h : ∀ c, len + z.toNat ≤ c → SatOps P l n m all rest ((d, .xsl σ.length 0 sz (len + z.toNat) c) :: env) (σ ++ [.cells (zs ++ List.replicate ((c - len) * sz) .dead)]) Q) :
    SatOps P l n m all (⟨some d, .call ⟨.builtin .append, #[x, y], #[tS, tX]⟩, ty, pos, after, none⟩ :: rest) env σ Q := by
  refine ym rfl (by simp) fun F G a w hs => ?_
  obtain ⟨k, rfl⟩ : ∃ k : Nat, z = k := ⟨z.toNat, by omega⟩
  rw [Int.toNat_natCast] at *
  have hsz := Nat.eq_of_beq_eq_true hsz
  have hxo := o7 hs tt tS x
  have hyo := o7 hs tt tX y
  rw [hx] at hxo
  rw [hq] at hyo
  have ey := (hyo.toS rfl).int
  obtain ⟨ad, ex, c1, c3⟩ := (hxo.toS rfl).xslv
  obtain ⟨eT, hu, hT⟩ := aao ht he
  subst hsz
  obtain ⟨b1, b2, b3⟩ := aff (P := P) hs hxo hb
  obtain ⟨olds, b3, b3D, b4, b5⟩ := b3 len (Nat.le_refl _)
  rw [← b2, List.take_length] at b5
  rw [Nat.mul_add, Nat.mul_one] at hfit
  rw [ex] at b3D
  obtain ⟨zv, hzv, hrun⟩ := an1 (w := w) (ty := ty) (kz := kz) (k := k) hu hT (by rw [(ht _ _ hX).und, hXi]) olds b3D c1 (by omega) (by omega) (by omega)
  have hge : len + k ≤ grownCap w (len + k) cap eT := grownCap_ge _ _ _ _
  have hs0 := hs.drew
  have hzl : zs.length = olds.size := by rw [b2, b4]
  have hget : ∀ (j : Nat) v c, (olds ++ zv)[j]? = some v → (zs ++ List.replicate ((grownCap w (len + k) cap eT - len) * e.size) PV.dead)[j]? = some c → c = .dead ∨ (RepS G w v c ∧ c.lt σ.length) := by
    intro j v c hv hc
    by_cases h1 : j < zs.length
    · rw [List.getElem?_append_left h1] at hc
      rw [Array.getElem?_append_left (by omega)] at hv
      exact .inr (b5 j v c hv hc)
    · rw [List.getElem?_append_right (by omega)] at hc
      exact .inl (List.eq_of_mem_replicate (List.mem_of_getElem? hc))
  have hs1 := hs0.box (olds ++ zv) eT (zs ++ List.replicate ((grownCap w (len + k) cap eT - len) * e.size) PV.dead) (by simp only [List.length_append, List.length_replicate, Array.size_append, hzv, hzl]; exact Nat.le_refl _) (by
      rw [mo]; intro p hp
      obtain ⟨j, hj, rfl⟩ := List.getElem_of_mem hp
      have hj' : j < (olds ++ zv).size := by
        simp only [List.length_append, List.length_replicate] at hj
        simp only [Array.size_append, hzv, ← hzl]; exact hj
      rcases hget j _ _ (Array.getElem?_eq_getElem hj') (List.getElem?_eq_getElem hj) with e | ⟨_, e⟩
      · rw [e]; trivial
      · exact e) (fun j v c hv hc => by
      rcases hget j v c hv hc with rfl | ⟨e, e2⟩
      · exact .dead _
      · exact .sh (e.mono (n := σ.length) (fun _ p h => ⟨p, ⟨Nat.le_refl _, rfl⟩, h, fun _ _ => rfl⟩) (fun _ _ => rfl) e2)) (.of_sh fun j v c hv hc => by
      rcases hget j v c hv hc with rfl | ⟨e, _⟩
      · exact aaf _
      · exact yz e)
  refine ⟨.slice (some ⟨w.heap.size, 0, none⟩) (len + k) (grownCap w (len + k) cap eT), _, _, _, _, .inl (aid (by rw [ex, ey]; exact hrun)), hs1.setS (ltn hd) (.xsl _ σ.length 0 e.size _ _ hge (.inr ⟨?_, ?_⟩)) (.inr (by simp)), (Evol.drew hs).trans (Evol.alloc hs0 _ _ _ fun i hi => upd_ne _ _ (by have := hs.floor; omega)), h _ hge⟩
  · simp only [upd_same]; rfl
  · simp only [upd_same]
end
end Go.Proofs.Ytbpjaiemlkcccaa.Pv
end
section
/- Rows of known capacity: what stands in the way of them; elements of several cells. -/
namespace Go.Proofs.Ytbpjaiemlkcccaa.Pv
open Go
section
variable {P : Program} {l : Option Nat} {tt : TT} {n m : Nat} {all : Array Oper} {rest : List Oper} {env : Env} {σ : Sto} {Q : Post} {d : Nat} {dd : Option Nat} {ty : TypeId} {pos : String} {after : Array Edge} {g : Option (Nat × Bool)}
theorem aex {w : World} {tS tR e : TypeId} (ht : P.underlying tS = some (.slice e)) (size : Nat) (hz : ∀ w, (Go.sizeOf e).run P w = .ok size w) (a b : Option Addr) (la ca lb cb : Nat) (h0 : la = 0 ∨ lb = 0) :
    (Extern.SlicesOverlaps.overlaps #[tS, tS] #[tR] #[.slice a la ca, .slice b lb cb]).run P w = .ok (.bool false) w := by
  have h0' : la = 0 ∨ lb = 0 ∨ size = 0 := h0.imp_right .inl
  change Sem.run P (α := Value) (do
    let some t := (#[tS, tS] : Array TypeId)[0]? | stuck "slices.overlaps: no parameter types"
    let .slice elem ← underlying t | stuck "slices.overlaps: slice type expected"
    let size ← sizeOf elem
    match (a : Option Addr), (b : Option Addr) with
    | some a, some b =>
      if la = 0 ∨ lb = 0 ∨ size = 0 then pure (Value.bool false)
      else if a.block != b.block && (← frozen a) && (← frozen b) then unsupported .addressObserved
      else do
        if a.block != b.block then do
          noView a; noView b
          if ← mayBeOne a b then return Value.bool ((← choose (.extern "sameAddr.stringBytes" 2)) == 1)
        pure (Value.bool (a.block == b.block && a.off < b.off + lb * size && b.off < a.off + la * size))
    | _, _ => pure (Value.bool false)) w = _
  cases a <;> cases b <;> simp [underlying, ht, hz, h0']
theorem akm {w : World} {tS tR e : TypeId} (ht : P.underlying tS = some (.slice e)) (size : Nat) (hz : ∀ w, (Go.sizeOf e).run P w = .ok size w)
    (a b : Addr) (la ca lb cb : Nat) (hne : a.block ≠ b.block) (tA tB : TypeId) (kA kB : Nat)
    (hsa : w.shape? a.block = some (tA, kA)) (hsb : w.shape? b.block = some (tB, kB)) (hkA : kA ≠ 0)
    (hfb : w.frozen? b = false) (hfe : w.frozen? { block := b.block, off := kB } = false) :
    (Extern.SlicesOverlaps.overlaps #[tS, tS] #[tR] #[.slice (some a) la ca, .slice (some b) lb cb]).run P w = .ok (.bool false) w := by
  have hnb : (a.block != b.block) = true := by simpa using hne
  have hnb' : (a.block == b.block) = false := by simpa using hne
  change Sem.run P (α := Value) (do
    let some t := (#[tS, tS] : Array TypeId)[0]? | stuck "slices.overlaps: no parameter types"
    let .slice elem ← underlying t | stuck "slices.overlaps: slice type expected"
    let size ← sizeOf elem
    match (some a : Option Addr), (some b : Option Addr) with
    | some a, some b =>
      if la = 0 ∨ lb = 0 ∨ size = 0 then pure (Value.bool false)
      else if a.block != b.block && (← frozen a) && (← frozen b) then unsupported .addressObserved
      else do
        if a.block != b.block then do
          noView a; noView b
          if ← mayBeOne a b then return Value.bool ((← choose (.extern "sameAddr.stringBytes" 2)) == 1)
        pure (Value.bool (a.block == b.block && a.off < b.off + lb * size && b.off < a.off + la * size))
    | _, _ => pure (Value.bool false)) w = _
  by_cases h0 : la = 0 ∨ lb = 0 ∨ size = 0
  · simp [underlying, ht, hz, h0]
  · cases kA with
    | zero => exact absurd rfl hkA
    | succ kA =>
      cases hfa : w.frozen? a with
      | true => simp [run_underlying ht, hz, h0, hnb, hnb', frozen, noView, viewAt, mayBeOne, stringish, shape, Sem.run, hsa, hsb, hfa, hfb, hfe]
      | false =>
        cases hfa2 : w.frozen? { block := a.block, off := kA + 1 } <;>
        simp [run_underlying ht, hz, h0, hnb, hnb', frozen, noView, viewAt, mayBeOne, stringish, shape, Sem.run, hsa, hsb, hfa, hfa2, hfb, hfe]
theorem ap2 {w : World} {b j : Nat} {v : Value} (h : w.cell? ⟨b, j, none⟩ = some v) : ∃ T k, w.shape? b = some (T, k) ∧ j < k := by
  unfold World.cell? at h
  split at h
  · rename_i c T fz hb
    simp at h
    refine ⟨T, c.size, by simp only [World.shape?]; simp only at hb; rw [hb], ?_⟩
    exact (Array.getElem?_eq_some_iff.1 h).1
  · cases h
theorem an8 (ht : oq P tt) {f : FuncId} {fn : Func} {x y : Operand} {tS tR : TypeId} {es cs : List PV} {i off sz len cap : Nat} {e : TI}
    (hf : P.funcs[f]? = some fn) (hname : (fn.name == "runtime.NumGoroutine") = false) (hb : fn.body.isNone = true) (hn : Extern.findNext fn = none) (hfe : Extern.find fn = some (Extern.SlicesOverlaps.overlaps #[tS, tS] #[tR]))
    (he : eti tt tS = some e) (hsz : Nat.beq e.size sz = true) (hx : opv tt env tS x = .sl .sh sz es) (hy : opv tt env tS y = .xsl i off sz len cap) (hi : σ[i]? = some (.cells cs)) (hsz0 : Nat.beq sz 0 = false) (hd : Nat.ble (d + 1) n = true)
    (h : SatOps P l n m all rest ((d, .bool false) :: env) σ Q) :
    SatOps P l n m all (⟨some d, .call ⟨.value (.func f), #[x, y], #[tS, tS]⟩, ty, pos, after, none⟩ :: rest) env σ Q := by
  refine ym rfl (by simp) fun F G a w hs => ?_
  have hxo := o7 hs tt tS x
  have hyo := o7 hs tt tS y
  rw [hx] at hxo
  rw [hy] at hyo
  obtain ⟨eT, hu, hT⟩ := aao ht he
  obtain ⟨ax, cx, ex, hx'⟩ := ((hxo.toS rfl).slv).slv
  obtain ⟨ay, ey, c1, c3⟩ := (hyo.toS rfl).xslv
  have hagg : (isAgg tS).run P w = .ok false w := by simp [isAgg, underlying, hu]
  have hrun : ∀ v1 v2 : Value, (Extern.SlicesOverlaps.overlaps #[tS, tS] #[tR] #[v1, v2]).run P w = .ok (.bool false) w → a.eval x = v1 → a.eval y = v2 →
      (execOp a.eval ⟨some d, .call ⟨.value (.func f), #[x, y], #[tS, tS]⟩, ty, pos, after, none⟩).run P w = .ok (.value (.bool false)) w := by
    intro v1 v2 h1 e1 e2
    have h2 := run_callFunc_extern (P := P) hf hname hb hn hfe #[v1, v2] w
    rw [h1] at h2
    have hff : a.eval (.func f) = .func (.func f) #[] #[] := rfl
    simp [execOp, resolve, invoke, hff, e1, e2, Deferred.ofValue, h2]
  refine ⟨.bool false, w, G, _, σ, .inl ?_, hs.setS (ltn hd) (.pl (.bool _)) trivial, .refl _ _ _ _, h⟩
  rcases hx' with rfl | ⟨ad, p, vs, rfl, hsp, hK, hp, hc, hsz', hv, hr⟩
  · exact hrun _ _ (aex hu _ hT.rsize _ _ _ _ _ _ (.inl rfl)) ex ey
  · by_cases hl : len = 0
    · exact hrun _ _ (aex hu _ hT.rsize _ _ _ _ _ _ (.inr hl)) ex ey
    · by_cases hes : es.length = 0
      · exact hrun _ _ (aex hu _ hT.rsize _ _ _ _ _ _ (.inl hes)) ex ey
      · obtain ⟨c3, c4⟩ := c3.resolve_left (by omega)
        subst c3
        obtain ⟨hK', hsp', hcell⟩ := hs.sto i _ hi
        have hsz0' : sz ≠ 0 := fun e => by rw [e] at hsz0; cases hsz0
        have hpos : 0 < es.length * sz := Nat.mul_pos (by omega) (by omega)
        obtain ⟨T, k, hsh, hk⟩ := ap2 (hv 0 hpos)
        refine hrun _ _ (akm hu _ hT.rsize ad ⟨G.bs i, off, none⟩ _ _ _ _ ?_ T _ k _ hsh hsp'.sh (by omega) (hsp'.nf c4 _) (hsp'.nf c4 _)) ex ey
        intro e'
        simp only at e'
        rw [e', hK'] at hK
        cases hK
theorem aoa {w : World} {t eT : TypeId} (hu : P.underlying t = some (.slice eT)) (d : Nat) (ad : Option Addr) (ln cp : Nat) : (Op.equalIn (d + 1) t (.slice ad ln cp) (.slice none 0 0)).run P w = .ok ad.isNone w := by
  cases ad <;> simp [Op.equalIn, underlying, hu]
theorem aa4 (ht : oq P tt) {tS tY : TypeId} {x : Operand} {e : TI} {sz : Nat} {es : List PV} (he : eti tt tS = some e) (hx : opv tt env tS x = .sl .sh sz es) (hd : Nat.ble (d + 1) n = true)
    (h : ∀ b, (b = true → es = []) → SatOps P l n m all rest ((d, .bool b) :: env) σ Q) :
    SatOps P l n m all (⟨some d, .binOp .eql tS x (.const (.slice none 0 0)) tY, ty, pos, after, none⟩ :: rest) env σ Q := by
  refine ym rfl (by simp) fun F G a w hs => ?_
  have hxo := o7 hs tt tS x
  rw [hx] at hxo
  obtain ⟨eT, hu, hT⟩ := aao ht he
  obtain ⟨ax, cx, ex, hx'⟩ := ((hxo.toS rfl).slv).slv
  have hg : (eqGuard .eql tS x (.const (.slice none 0 0)) (a.eval x) (.slice none 0 0)).run P w = .ok () w := aew (by simp [ex]) (by simp [ex])
  have hc : a.eval (.const (.slice none 0 0)) = .slice none 0 0 := rfl
  have hb : (binOp .eql tS (a.eval x) (.slice none 0 0)).run P w = .ok (.bool ax.isNone) w := by
    rw [ex]
    have := aoa (P := P) (w := w) hu 9999 ax es.length cx
    simp only [binOp, Op.equal, Op.maxDepth, Sem.run_bind, this, Result.andThen_ok, Sem.run_pure]
  refine ⟨.bool ax.isNone, w, G, _, σ, .inl ?_, hs.setS (ltn hd) (.pl (.bool _)) trivial, .refl _ _ _ _, h _ fun hn => ?_⟩
  · simp only [execOp, hc, Sem.run_bind, hg, Result.andThen_ok, hb, Sem.run_pure]
  · rcases hx' with h | ⟨ad, _, _, h, _⟩
    · exact h
    · rw [h] at hn; cases hn
theorem ac2 (ht : oq P tt) {t : TypeId} {e : TI} (he : eti tt t = some e) (hd : Nat.ble (d + 1) n = true) (h : SatOps P l n m all rest ((d, .xsl 0 0 e.size 0 0) :: env) σ Q) :
    SatOps P l n m all (⟨some d, .buildSlice t 0 #[], ty, pos, after, none⟩ :: rest) env σ Q := by
  refine ym rfl (by simp) fun F G a w hs => ?_
  obtain ⟨eT', hu, hT⟩ := aao ht he
  have hrun : (execOp a.eval ⟨some d, .buildSlice t 0 #[], ty, pos, after, none⟩).run P w = .ok (.value (.slice (some ⟨w.heap.size, 0, none⟩) 0 0)) (w.alloc (.cells #[] eT')) := by
    have h0 : Instr.fill (fun i => some (i * e.size, e.size)) (Array.map (fun x => (default : Value)) (Array.range 0)) [] = some #[] := by simp [Instr.fill]
    simp [execOp, Instr.buildSlice, underlying, hu, hT.rsize w, newRow, h0]
  exact ⟨_, _, _, _, σ, .inl hrun, (hs.alloc (.cells #[] eT') (.imm 0)).setS (ltn hd) (.xsl _ _ _ _ _ _ (Nat.le_refl _) (.inl rfl)) (.inl rfl), Evol.alloc hs _ _ _ fun _ _ => rfl, h⟩
theorem aa9 {e : TI} (he : eti tt ty = some e) (hd : Nat.ble (d + 1) n = true) (h : SatOps P l n m all rest ((d, .xsl 0 0 e.size 0 0) :: env) σ Q) :
    SatOps P l n m all (⟨some d, .assign (.const (.slice none 0 0)), ty, pos, after, none⟩ :: rest) env σ Q := by
  refine ym rfl (by simp) fun F G a w hs => ?_
  exact ⟨.slice none 0 0, w, G, _, σ, .inl rfl, hs.setS (ltn hd) (.xsl _ _ _ _ _ _ (Nat.le_refl _) (.inl rfl)) (.inl rfl), .refl _ _ _ _, h⟩
theorem aar {fo : Operand} {args : Array Operand} {ats : Array TypeId} {f : FuncId} {ps : List PV} {R : PV → Sto → Prop} (hcal : jd P f) (hc : jo P f ps σ R) (hfo : fo = .func f) (hps : zy tt env args.toList ats.toList = ps) (hlen : Nat.ble args.size ats.size = true)
    (htup : ps.all (fun p => !p.isTup) = true) (hd : Nat.ble (d + 1) n = true) (h : ∀ r σ', R r σ' → SatOps P l n m all rest ((d, r) :: env) σ' Q) :
    SatOps P l n m all (⟨some d, .call ⟨.value fo, args, ats⟩, ty, pos, after, none⟩ :: rest) env σ Q :=
  akj (tt := tt) hcal (as := []) (bs := []) (by rw [hfo]; rfl) (by rw [List.nil_append, List.append_nil, hps]) (nlb hlen) htup hc (ltn hd) h
theorem ash {α : Type} {f : α → PV} {sz : Nat} (hf : ∀ x, (f x).cells.length = sz) {xs : List α} {rs : List PV} {j : Nat} {v : α} (hj : j < xs.length) :
    putAt (flat (xs.map f) ++ rs) (j * sz) (f v).cells = flat ((xs.set j v).map f) ++ rs := by
  have hz : ∀ (l : List α), ∀ e ∈ l.map f, e.cells.length = sz := fun l e he => by obtain ⟨x, _, rfl⟩ := List.mem_map.1 he; exact hf x
  have hl := vg (hz xs)
  have hl2 := vg (hz (xs.set j v))
  rw [List.length_map] at hl hl2
  rw [List.length_set] at hl2
  have hmul : j * sz + sz ≤ xs.length * sz := by rw [← Nat.succ_mul]; exact Nat.mul_le_mul_right _ hj
  obtain ⟨q1, q2⟩ := aax (flat (xs.map f) ++ rs) (j * sz) (f v).cells (by rw [hf, List.length_append]; omega)
  refine List.ext_getElem? fun k => ?_
  rw [q2, hf]
  by_cases hk : k < xs.length * sz
  · rw [List.getElem?_append_left (by omega), List.getElem?_append_left (by omega)]
    have hsz : 0 < sz := by
      rcases Nat.eq_zero_or_pos sz with h | h
      · rw [h] at hk; omega
      · exact h
    obtain ⟨i, r, hr, rfl⟩ : ∃ i r, r < sz ∧ k = i * sz + r := ⟨k / sz, k % sz, Nat.mod_lt _ hsz, by rw [Nat.mul_comm]; exact (Nat.div_add_mod k sz).symm⟩
    have hi : i < xs.length := by
      rcases Nat.lt_or_ge i xs.length with h | h
      · exact h
      · have := Nat.mul_le_mul_right sz h; omega
    have h1 : ((xs.set j v).map f)[i]? = some (f (if j = i then v else xs[i])) := by
      rw [List.getElem?_map, List.getElem?_set]
      by_cases e : j = i
      · subst e; simp [hj]
      · simp [e, hi]
    rw [flat_get (hz _) h1 r hr]
    by_cases e : j = i
    · subst e
      rw [if_pos ⟨by omega, by omega⟩, if_pos rfl, Nat.add_sub_cancel_left]
    · rw [if_neg e, if_neg]
      · rw [flat_get (hz _) (i := i) (e := f xs[i]) (by simp [hi]) r hr]
      · rintro ⟨g1, g2⟩
        rcases Nat.lt_or_ge i j with h | h
        · have := Nat.mul_le_mul_right sz (Nat.succ_le_of_lt h); rw [Nat.succ_mul] at this; omega
        · have := Nat.mul_le_mul_right sz (Nat.succ_le_of_lt (Nat.lt_of_le_of_ne h e)); rw [Nat.succ_mul] at this; omega
  · rw [if_neg (by omega), List.getElem?_append_right (by omega), List.getElem?_append_right (by omega), hl, hl2]
theorem ar1 {α : Type} (f : α → PV) (ht : oq P tt) {t : TypeId} {x y : Operand} {i j sz : Nat} {ti : TI} {xs : List α} {rs : List PV} {v : α} (hx : opv tt env t x = .ptr i (0 + j * sz)) (hti : tl tt t = some ti) (hsz : Nat.beq ti.size sz = true)
    (hi : σ[i]? = some (.cells (flat (xs.map f) ++ rs))) (hf : ∀ x, (f x).cells.length = sz) (hy : opv tt env t y = f v) (hS : (f v).isS = true) (h1 : (f v).cells.all PV.one = true) (hlt : j < xs.length)
    (h : SatOps P l n m all rest env (σ.set i (.cells (flat ((xs.set j v).map f) ++ rs))) Q) : SatOps P l n m all (⟨none, .store t x y, ty, pos, after, none⟩ :: rest) env σ Q := by
  have hsz := Nat.eq_of_beq_eq_true hsz
  have hz : ∀ e ∈ xs.map f, e.cells.length = sz := fun e he => by obtain ⟨x, _, rfl⟩ := List.mem_map.1 he; exact hf x
  have hl := vg hz
  rw [List.length_map] at hl
  have hmul : j * sz + sz ≤ xs.length * sz := by rw [← Nat.succ_mul]; exact Nat.mul_le_mul_right _ hlt
  refine ah4 ht hx hti hi hy hS (by rw [hf, hsz]) h1 (by rw [List.length_append]; omega) ?_
  rw [Nat.zero_add, ash hf hlt]; exact h
end
end Go.Proofs.Ytbpjaiemlkcccaa.Pv
end
section
/- The rules for rows of known capacity, in the form in which the walk uses them. -/
namespace Go.Proofs.Ytbpjaiemlkcccaa.Pv
open Go
abbrev room (d : Nat) : List PV := List.replicate d .dead
theorem ak5 : ∀ (A B C B' : List PV), B'.length = B.length → putAt (A ++ B ++ C) A.length B' = A ++ B' ++ C
  | [], B, C, B', h => by
    simp only [List.nil_append, List.length_nil]
    induction B generalizing B' with
    | nil => rw [List.length_eq_zero_iff.1 h]; exact aes _ _
    | cons b B ih =>
      cases B' with
      | nil => simp at h
      | cons b' B' =>
        simp only [List.length_cons, Nat.add_right_cancel_iff] at h
        simp only [List.cons_append, putAt, ih B' h]
  | a :: A, B, C, B', h => by
    cases B' with
    | nil =>
      have : B = [] := List.length_eq_zero_iff.1 h.symm
      subst this; exact aes _ _
    | cons b' B' =>
      simp only [List.cons_append, List.length_cons, putAt]
      rw [← ak5 A B C (b' :: B') h]
theorem adg {l A B C B' : List PV} {o : Nat} (hl : l = A ++ B ++ C) (ho : o = A.length) (h : B'.length = B.length) : putAt l o B' = A ++ B' ++ C := by rw [hl, ho]; exact ak5 A B C B' h
theorem anr (a b : Nat) : room (a + b) = room a ++ room b := by rw [room, room, room, List.replicate_append_replicate]
def aby {α : Type} (xs : List α) (i : Nat) (v : α) : List α := xs.take i ++ v :: xs.drop i
theorem alx {α : Type} (xs : List α) (i : Nat) (v : α) : (aby xs i v).length = xs.length + 1 := by simp [aby]; omega
section
variable {α : Type} {f : α → PV} {sz : Nat}
theorem xq (hf : ∀ x, (f x).cells.length = sz) (xs : List α) : (flat (xs.map f)).length = xs.length * sz := by
  have := vg (es := xs.map f) (sz := sz) (fun e he => by obtain ⟨x, _, rfl⟩ := List.mem_map.1 he; exact hf x)
  rw [this, List.length_map]
theorem ahj (xs ys : List α) : flat ((xs ++ ys).map f) = flat (xs.map f) ++ flat (ys.map f) := by rw [List.map_append, ait]
theorem ano (xs : List α) (i : Nat) : flat (xs.map f) = flat ((xs.take i).map f) ++ flat ((xs.drop i).map f) := by rw [← ahj, List.take_append_drop]
theorem axt (v : α) : flat ([v].map f) = (f v).cells := by simp [flat]
theorem avh (hf : ∀ x, (f x).cells.length = sz) (xs : List α) (i : Nat) : (flat (xs.map f)).take (i * sz) = flat ((xs.take i).map f) := by
  rw [List.map_take, ak8 fun e he => by obtain ⟨x, _, rfl⟩ := List.mem_map.1 he; exact hf x]
theorem av3 (hf : ∀ x, (f x).cells.length = sz) (xs : List α) (i : Nat) : (flat (xs.map f)).drop (i * sz) = flat ((xs.drop i).map f) := by
  rw [List.map_drop, ald fun e he => by obtain ⟨x, _, rfl⟩ := List.mem_map.1 he; exact hf x]
theorem ah5 {a b : Nat} (h : a = b + 1) : room (a * sz) = room sz ++ room (b * sz) := by rw [← anr, h, Nat.succ_mul, Nat.add_comm]
theorem aq1 {a b c : Nat} (h : a = b + c) : room (a * sz) = room (b * sz) ++ room (c * sz) := by rw [← anr, h, Nat.add_mul]
theorem ajl (xs : List α) (i : Nat) (v : α) : flat ((aby xs i v).map f) = flat ((xs.take i).map f) ++ flat ([v].map f) ++ flat ((xs.drop i).map f) := by
  rw [aby, show v :: xs.drop i = [v] ++ xs.drop i from rfl, ← List.append_assoc, ahj, ahj]
theorem adp (hf : ∀ x, (f x).cells.length = sz) (v : α) : (flat ([v].map f)).length = sz := by rw [axt, hf]
theorem abm (d : Nat) : (room d).length = d := List.length_replicate
theorem au5 (hf : ∀ x, (f x).cells.length = sz) {xs : List α} {v : α} {c : Nat} (hc : xs.length + 1 ≤ c) :
    putAt (flat (xs.map f) ++ room ((c - xs.length) * sz)) (0 + xs.length * sz) (flat ([v].map f)) = flat ((aby xs xs.length v).map f) ++ room ((c - (xs.length + 1)) * sz) := by
  have e1 : putAt (flat (xs.map f) ++ room ((c - xs.length) * sz)) (0 + xs.length * sz) (flat ([v].map f)) = flat (xs.map f) ++ flat ([v].map f) ++ room ((c - (xs.length + 1)) * sz) :=
    adg (B := room sz) (by rw [ah5 (show c - xs.length = (c - (xs.length + 1)) + 1 by omega), List.append_assoc]) (by rw [xq hf]; omega) (by rw [adp hf, abm])
  rw [e1, ajl, List.take_length, List.drop_length, List.map_nil]
  simp [flat]
theorem au4 (hf : ∀ x, (f x).cells.length = sz) {xs : List α} {v : α} {c i : Nat} (hi : i < xs.length) (hc : xs.length + 1 ≤ c) :
    putAt (putAt (flat ((xs.take i).map f) ++ room ((c - i) * sz)) (i * sz) (flat ([v].map f))) ((i + 1) * sz) (flat ((xs.drop i).map f)) = flat ((aby xs i v).map f) ++ room ((c - (xs.length + 1)) * sz) := by
  have hl : (flat ((xs.take i).map f)).length = i * sz := by rw [xq hf, List.length_take, Nat.min_eq_left (by omega)]
  have e1 : putAt (flat ((xs.take i).map f) ++ room ((c - i) * sz)) (i * sz) (flat ([v].map f)) = flat ((xs.take i).map f) ++ flat ([v].map f) ++ room ((c - (i + 1)) * sz) :=
    adg (B := room sz) (by rw [ah5 (show c - i = (c - (i + 1)) + 1 by omega), List.append_assoc]) (by rw [hl]) (by rw [adp hf, abm])
  have e2 : putAt (flat ((xs.take i).map f) ++ flat ([v].map f) ++ room ((c - (i + 1)) * sz)) ((i + 1) * sz) (flat ((xs.drop i).map f)) = flat ((xs.take i).map f) ++ flat ([v].map f) ++ flat ((xs.drop i).map f) ++ room ((c - (xs.length + 1)) * sz) :=
    adg (B := room ((xs.length - i) * sz)) (by rw [aq1 (show c - (i + 1) = (xs.length - i) + (c - (xs.length + 1)) by omega), List.append_assoc (_ ++ _)]) (by rw [List.length_append, hl, adp hf, Nat.succ_mul]) (by rw [xq hf, List.length_drop, abm])
  rw [e1, e2, ajl]
theorem awd (hf : ∀ x, (f x).cells.length = sz) {xs : List α} {v : α} {c i : Nat} (hi : i < xs.length) (hc : xs.length + 1 ≤ c) :
    putAt (putAt (flat (xs.map f) ++ room ((c - xs.length) * sz)) ((i + 1) * sz) (flat ((xs.drop i).map f))) (i * sz) (flat ([v].map f)) = flat ((aby xs i v).map f) ++ room ((c - (xs.length + 1)) * sz) := by
  have hl : ∀ j, j ≤ xs.length → (flat ((xs.take j).map f)).length = j * sz := fun j hj => by rw [xq hf, List.length_take, Nat.min_eq_left hj]
  have hs : xs.take (i + 1) = xs.take i ++ [xs[i]] := List.take_succ_eq_append_getElem hi
  have e1 : putAt (flat (xs.map f) ++ room ((c - xs.length) * sz)) ((i + 1) * sz) (flat ((xs.drop i).map f)) = flat ((xs.take (i + 1)).map f) ++ flat ((xs.drop i).map f) ++ room ((c - (xs.length + 1)) * sz) :=
    adg (B := flat ((xs.drop (i + 1)).map f) ++ room sz) (by rw [ano xs (i + 1), ah5 (show c - xs.length = (c - (xs.length + 1)) + 1 by omega)]; simp only [List.append_assoc]) (by rw [hl _ hi])
      (by rw [xq hf, List.length_append, xq hf, List.length_drop, List.length_drop, abm, ← Nat.succ_mul]; congr 1; omega)
  have e2 : putAt (flat ((xs.take i).map f) ++ flat ([xs[i]].map f) ++ (flat ((xs.drop i).map f) ++ room ((c - (xs.length + 1)) * sz))) (i * sz) (flat ([v].map f)) = flat ((xs.take i).map f) ++ flat ([v].map f) ++ (flat ((xs.drop i).map f) ++ room ((c - (xs.length + 1)) * sz)) :=
    adg rfl (by rw [hl _ (by omega)]) (by rw [adp hf, adp hf])
  rw [e1, hs, ahj, List.append_assoc _ (flat ((xs.drop i).map f)), e2, ajl]
  simp only [List.append_assoc]
end
theorem um {σ s : Sto} (h : xh σ) (hs : ∀ e ∈ s, e.lt (σ.length + s.length)) : xh (σ ++ s) := by
  intro i e' hi
  rw [List.length_append]
  by_cases hlt : i < σ.length
  · rw [List.getElem?_append_left hlt] at hi
    have h1 := h i e' hi
    cases e' with
    | cells cs => simp only [Ent.lt] at h1 ⊢; rw [mo] at h1 ⊢; exact fun v hv => zh (Nat.le_add_right _ _) (h1 v hv)
    | gone => trivial
    | loop x y z u => exact fun t => zh (Nat.le_add_right _ _) (h1 t)
  · rw [List.getElem?_append_right (by omega)] at hi
    exact hs e' (List.mem_of_getElem? hi)
theorem uo {m : Nat} {E : Env} {σ s0 s : Sto} (n : Nat) (h : s.take n = s0) (hm : m ≤ (σ ++ s0).length) (hst : xh (σ ++ s0)) (he : ∀ t, (look E t).lt (σ ++ s0).length) : ∃ ex, σ ++ s = (σ ++ s0) ++ ex ∧ agn m E (σ ++ s0) ex :=
  ⟨s.drop n, by rw [List.append_assoc, ← h, List.take_append_drop], .inr ⟨hm, hst, he⟩⟩
theorem uq {α : Type} [Inhabited α] {xs : List α} {i : Nat} (h : i < xs.length) : xs.getD i default ∈ xs := by simp [List.getD, h]
theorem ann {es : List PV} {c : PV} (h : c ∈ flat es) : ∃ e ∈ es, c ∈ e.cells := by
  induction es with
  | nil => simp [flat] at h
  | cons e r ih =>
    simp only [flat, List.mem_append] at h
    rcases h with h | h
    · exact ⟨e, List.mem_cons_self, h⟩
    · obtain ⟨e', h1, h2⟩ := ih h; exact ⟨e', List.mem_cons_of_mem _ h1, h2⟩
theorem atz {p c : PV} (hp : p.pl = true) (h : c ∈ p.cells) : c.pl = true := by
  cases p with
  | agg cs => exact aor.1 hp c h
  | _ => first | (have : c = _ := List.mem_singleton.1 h; rw [this]; exact hp) | cases hp
theorem aaz {α : Type} {f : α → PV} (hp : ∀ x, (f x).pl = true) {xs : List α} : ∀ c ∈ flat (xs.map f), c.pl = true := by
  intro c hc
  obtain ⟨e, he, hc⟩ := ann hc
  obtain ⟨x, _, rfl⟩ := List.mem_map.1 he
  exact atz (hp x) hc
theorem agp {α : Type} {f : α → PV} (hp : ∀ x, (f x).pl = true) (xs : List α) (d k : Nat) : (Ent.cells (flat (xs.map f) ++ room d)).lt k := by
  simp only [Ent.lt]
  rw [mo]
  intro v hv
  rcases List.mem_append.1 hv with h | h
  · exact ayo (aaz hp v h) k
  · rw [List.eq_of_mem_replicate h]; trivial
theorem afk {α : Type} {f : α → PV} {sz : Nat} (hf : ∀ x, (f x).cells.length = sz) (hp : ∀ x, (f x).pl = true) {σ : Sto} {xs : List α} {rs : List PV} {k i q len cap : Nat} (hk : σ[k]? = some (.cells (flat (xs.map f) ++ rs))) (hq : q ≤ len) (hle : i + q ≤ xs.length) :
    SrcQ σ sz (.xsl k (i * sz) sz len cap) len q (flat (((xs.drop i).take q).map f)) := by
  have hl := xq hf xs
  have hmul : i * sz + q * sz ≤ xs.length * sz := by rw [← Nat.add_mul]; exact Nat.mul_le_mul_right _ hle
  have e : ((flat (xs.map f) ++ rs).drop (i * sz)).take (q * sz) = flat (((xs.drop i).take q).map f) := by
    rw [List.drop_append_of_le_length (by omega), List.take_append_of_le_length (by rw [List.length_drop]; omega), av3 hf, avh hf]
  rw [← e]
  refine .row k (i * sz) len q cap _ hk hq (by rw [List.length_append]; omega) ?_
  rw [e, List.all_eq_true]
  exact fun c hc => ajx (aaz hp c hc)
theorem aqu {p : PV} (h : p.cells.all PV.one = true) {c : PV} (hc : c ∈ p.cells) : c.one = true := List.all_eq_true.1 h c hc
theorem aha {α : Type} {f : α → PV} (h : ∀ x, (f x).cells.all PV.one = true) (xs : List α) : (flat (xs.map f)).all PV.one = true := by
  rw [List.all_eq_true]
  intro c hc
  obtain ⟨e, he, hc⟩ := ann hc
  obtain ⟨x, _, rfl⟩ := List.mem_map.1 he
  exact aqu (h x) hc
theorem ad6 {σ : Sto} (h : xh σ) (k : Nat) : xh (σ.set k .gone) := by
  intro i e hi
  rw [List.length_set]
  rw [List.getElem?_set] at hi
  split at hi
  · split at hi
    · cases hi; trivial
    · cases hi
  · exact h i e hi
theorem afp {σ : Sto} {e e' : Ent} : (σ ++ [e]).set σ.length e' = σ ++ [e'] := by rw [List.set_append_right _ _ (Nat.le_refl _), Nat.sub_self]; rfl
theorem afm {σ : Sto} {e : Ent} : (σ ++ [e])[σ.length]? = some e := by simp
theorem aih {σ r : Sto} {k : Nat} {e : Ent} (hk : k < σ.length) : (σ ++ r).set k e = σ.set k e ++ r := List.set_append_left _ _ hk
theorem ae {σ r : Sto} {k : Nat} {e : Ent} (hk : σ[k]? = some e) : (σ ++ r)[k]? = some e := ag hk
theorem agq {σ : Sto} {k : Nat} {e : Ent} (hk : k < σ.length) : (σ.set k e)[k]? = some e := by simp [hk]
section
variable {P : Program} {l : Option Nat} {tt : TT} {n m : Nat} {all : Array Oper} {rest : List Oper} {env : Env} {τ ex : Sto} {Q : Post} {d : Nat} {dd : Option Nat} {ty : TypeId} {pos : String} {after : Array Edge} {g : Option (Nat × Bool)}
theorem ac8 {e : TI} {k : Nat} (hB : Nat.ble e.bytes 4095 = true) (h : k ≤ 34359738368) : k * (e.bytes + 1) ≤ 140737488355328 := by
  have h1 := nlb hB
  exact Nat.le_trans (Nat.mul_le_mul h (Nat.succ_le_succ h1)) (by decide)
theorem acw {σ : Sto} (ht : oq P tt) {tS tX : TypeId} {x y : Operand} {e iX : TI} {eX i off sz len cap : Nat} {q : PV} (he : eti tt tS = some e) (hsz : Nat.beq e.size sz = true) (hX : tl tt tX = some iX) (hXi : iX.desc = .slice eX)
    (hx : opv tt env tS x = .xsl i off sz len cap) (hq : opv tt env tX y = q) (hy : aev σ sz q 0 []) (hd : Nat.ble (d + 1) n = true)
    (h : SatOps P l n m all rest ((d, .xsl i off sz len cap) :: env) σ Q) :
    SatOps P l n m all (⟨some d, .call ⟨.builtin .append, #[x, y], #[tS, tX]⟩, ty, pos, after, none⟩ :: rest) env σ Q := by
  refine ym rfl (by simp) fun F G a w hs => ?_
  have hsz := Nat.eq_of_beq_eq_true hsz
  have hxo := o7 hs tt tS x
  have hxl := yf hs tt tS x
  have hyo := o7 hs tt tX y
  rw [hx] at hxo hxl
  rw [hq] at hyo
  obtain ⟨ad, ex', c1, c3⟩ := (hxo.toS rfl).xslv
  obtain ⟨eT, hu, hT⟩ := aao ht he
  subst hsz
  obtain ⟨r1, r2, r3⟩ := aff (P := P) hs hyo hy
  obtain ⟨news, r3, r3D, r4, r5⟩ := r3 0 (Nat.le_refl _)
  have hn : news = #[] := Array.eq_empty_of_size_eq_zero (by rw [r4, Nat.zero_mul])
  subst hn
  have hin : (Builtin.append_ #[tS, tX] ty #[.slice ad len cap, a.eval y]).run P w = .ok (.slice ad len cap) w := by
    have hX' := (ht _ _ hX).und
    rw [hXi] at hX'
    have hsize : ∀ w', (sizeOf eT).run P w' = .ok e.size w' := hT.rsize
    simp only [Builtin.append_, List.getElem?_toArray, List.getElem?_cons_zero, List.getElem?_cons_succ, Sem.run_bind, underlying, hu, hX', run_program, Result.andThen_ok, Sem.run_pure, hsize, r1, Nat.add_zero, c1, if_true, r3, Bool.false_eq_true, if_false, Bool.not_false]
    cases ad <;> simp [storeCells]
  exact ⟨_, w, G, _, _, .inl (aid (by rw [ex']; exact hin)), hs.setS (ltn hd) (.xsl _ _ _ _ _ _ c1 c3) hxl, .refl _ _ _ _, h⟩
theorem ac6 {os : List Oper} {k : Nat} {cs rs : List PV} (E' : Env) (ex' : Sto) (hi : ex[k]? = some (.cells (cs ++ rs))) (hpl : ∀ c ∈ cs, c.pl = true) (he : akf (τ.length + k) cs E' env) (hσ : ab1 (τ.length + k) cs ex' (ex.set k .gone))
    (h : SatOps P l n m all os E' (τ ++ ex') Q) : SatOps P l n m all os env (τ ++ ex) Q :=
  ab2 E' (τ ++ ex') ((wo k).trans hi) hpl he (by rw [abr]; exact hσ.app τ) h
theorem mg {α : Type} (f : α → PV) (ht : oq P tt) {t : TypeId} {x y : Operand} {k j sz : Nat} {ti : TI} {xs : List α} {rs : List PV} {v : α} (hx : opv tt env t x = .ptr (τ.length + k) (0 + j * sz)) (hti : tl tt t = some ti) (hsz : Nat.beq ti.size sz = true)
    (hi : ex[k]? = some (.cells (flat (xs.map f) ++ rs))) (hf : ∀ x, (f x).cells.length = sz) (hy : opv tt env t y = f v) (hS : (f v).isS = true) (h1 : (f v).cells.all PV.one = true) (hlt : j < xs.length)
    (h : SatOps P l n m all rest env (τ ++ ex.set k (.cells (flat ((xs.set j v).map f) ++ rs))) Q) : SatOps P l n m all (⟨none, .store t x y, ty, pos, after, none⟩ :: rest) env (τ ++ ex) Q :=
  ar1 f ht hx hti hsz ((wo k).trans hi) hf hy hS h1 hlt (by rw [abr]; exact h)
end
end Go.Proofs.Ytbpjaiemlkcccaa.Pv
end
section
/- Regions that draw their order, one of the steps turning the store (it takes what a cell owns). -/
namespace Go.Proofs.Ytbpjaiemlkcccaa.Pv
open Go
section
variable {P : Program} {l : Option Nat} {n m : Nat} {σ0 σ1 : Sto} {Q : Post}
structure StepL (P : Program) (l : Option Nat) (n m : Nat) (all : Array Oper) (env : Env) (σ0 σ1 : Sto) (o : Oper) (p : PV) : Prop where
  go : ∀ (env0 : Env), (∀ t ∈ readsOf all o, look env0 t = look env t) → ∀ F G a w, Sim n m F G env0 σ0 a w → ∀ (i : Nat) (K : Act → World → Prop) (Q' : Exit → Act → World → Prop), all[i]? = some o →
    (∀ a' w' G', Sim n m F G' ((o.dst.getD 1000000, p) :: env0) σ1 a' w' → Evol m F G w G' w' → K a' w') → wpOpIn (Wd l) 0 P all Q' i K a w
def ai6 (all : Array Oper) : Nat → Nat → Nat → Bool
  | 0, _, _ => false
  | k + 1, j, i => match all[j]? with
    | some o => o.after.any fun e => Region.binds .any e && (Nat.beq e.on i || ai6 all k e.on i)
    | none => false
theorem al3 {all : Array Oper} {k j i : Nat} (h : ai6 all (k + 1) j i = true) : ∃ o, all[j]? = some o ∧ ∃ e ∈ o.after.toList, Region.binds .any e = true ∧ (e.on = i ∨ ai6 all k e.on i = true) := by
  unfold ai6 at h
  split at h
  · rename_i o ho
    rw [← Array.any_toList, List.any_eq_true] at h
    obtain ⟨e, h1, h2⟩ := h
    simp only [Bool.and_eq_true, Bool.or_eq_true] at h2
    exact ⟨o, ho, e, h1, h2.1, h2.2.imp Nat.eq_of_beq_eq_true id⟩
  · cases h
theorem agh {ops : List Oper} {listed : Array Bool} (hc : Closed ops listed) : ∀ {k j i : Nat}, ai6 ops.toArray k j i = true → listed.getD j true = true → listed.getD i true = true
  | 0, j, i, h, _ => by cases h
  | k + 1, j, i, h, hl => by
    obtain ⟨o, ho, e, he, hb, h1⟩ := al3 h
    have h2 := hc j o (by simpa using ho) hl e he hb
    rcases h1 with h1 | h1
    · rw [← h1]; exact h2
    · exact agh hc h1 h2
def ai8 (all : Array Oper) (j i : Nat) : Bool := ai6 all 4 j i
def apd (all : Array Oper) (j i : Nat) : Bool := ai6 all 4 i j
def alr (P : Program) (l : Option Nat) (n m : Nat) (all : Array Oper) (j : Nat) (σ0 σ1 : Sto) : Nat → Env → List Oper → List PV → Prop
  | _, _, [], [] => True
  | i, env, o :: os, p :: ps => (if i = j then StepL P l n m all env σ0 σ1 o p else (apd all j i = false → StepC P l n m all env σ0 o p) ∧ (ai8 all j i = false → StepC P l n m all env σ1 o p)) ∧ alr P l n m all j σ0 σ1 (i + 1) ((o.dst.getD 1000000, p) :: env) os ps
  | _, _, _, _ => False
theorem ale {all : Array Oper} {j : Nat} : ∀ (ops : List Oper) (ps : List PV) (b : Nat) (env : Env), alr P l n m all j σ0 σ1 b env ops ps → ps.length = ops.length ∧ ∀ (i : Nat) o, ops[i]? = some o → ∃ p, ps[i]? = some p ∧
    (if b + i = j then StepL P l n m all (yx env (ops.take i) (ps.take i)) σ0 σ1 o p else (apd all j (b + i) = false → StepC P l n m all (yx env (ops.take i) (ps.take i)) σ0 o p) ∧ (ai8 all j (b + i) = false → StepC P l n m all (yx env (ops.take i) (ps.take i)) σ1 o p))
  | [], [], _, _, _ => ⟨rfl, fun i o h => by simp at h⟩
  | o :: os, p :: ps, b, env, h => by
    obtain ⟨h1, h2⟩ := h
    obtain ⟨k1, k2⟩ := ale os ps (b + 1) _ h2
    refine ⟨by simp [k1], fun i o' hi => ?_⟩
    cases i with
    | zero => simp at hi; subst hi; exact ⟨p, rfl, h1⟩
    | succ i =>
      simp at hi
      obtain ⟨p', e1, e2⟩ := k2 i o' hi
      rw [show b + 1 + i = b + (i + 1) by omega] at e2
      exact ⟨p', by simpa using e1, by simpa only [List.take_succ_cons, yx] using e2⟩
  | [], _ :: _, _, _, h => h.elim
  | _ :: _, [], _, _, h => h.elim
theorem arj {ops : List Oper} {k j : Nat} {ps : List PV} {env : Env} (hok : ae9 ops k = true) (ht : xu ops k = true) (hjk : j < k) (hst : alr P l n m ops.toArray j σ0 σ1 0 env (ops.take k) ps) {Q' : Exit → Act → World → Prop} {F : Fr} {G : Gh} {w : World}
    (hQ : ∀ a w' G', Sim n m F G' (yx env (ops.take k) ps) σ1 a w' → Evol m F G w G' w' → wpListIn (Wd l) 0 P ops.toArray Q' (ops.drop k) a w') : ∀ (fuel : Nat) (listed : Array Bool) (a : Act) (w' : World) (G' : Gh) (env' : Env), listed.size = ops.length → ((List.range ops.length).filter fun i => !listed.getD i true).length ≤ fuel →
      Sim n m F G' env' (bif listed.getD j true then σ1 else σ0) a w' → Evol m F G w G' w' → (∀ i, i < ops.length → listed.getD i true = true → i < k) → (∀ i (o : Oper), ops[i]? = some o → listed.getD i true = true → look env' (o.dst.getD 1000000) = (ps[i]?).getD .dead) →
      (∀ t, (∀ i (o : Oper), ops[i]? = some o → listed.getD i true = true → o.dst.getD 1000000 ≠ t) → look env' t = look env t) → Closed ops listed → wpAnyIn (Wd l) 0 P .any ops.toArray Q' fuel listed a w' := by
  obtain ⟨hpl, hget⟩ := ale (ops.take k) ps 0 env hst
  have hkl : k ≤ ops.length := by simp only [xu, Bool.and_eq_true] at ht; exact nlb ht.1
  have htk : ∀ {i : Nat} {o : Oper}, i < k → ops[i]? = some o → (ops.take k)[i]? = some o := fun {i o} hi ho => by rw [List.getElem?_take, if_pos hi]; exact ho
  have htk' : ∀ {i : Nat} {o : Oper}, (ops.take k)[i]? = some o → i < k ∧ ops[i]? = some o := fun {i o} h => by
    rw [List.getElem?_take] at h
    split at h
    · exact ⟨by assumption, h⟩
    · cases h
  have fin : ∀ (fuel : Nat) (listed : Array Bool) (a : Act) (w' : World) (G' : Gh) (env' : Env), listed.size = ops.length → ((List.range ops.length).filter fun i => !listed.getD i true).length ≤ fuel → (∀ i, i < k → listed.getD i true = true) → (∀ i, i < ops.length → listed.getD i true = true → i < k) → Sim n m F G' env' (bif listed.getD j true then σ1 else σ0) a w' → Evol m F G w G' w' →
      (∀ i (o : Oper), ops[i]? = some o → listed.getD i true = true → look env' (o.dst.getD 1000000) = (ps[i]?).getD .dead) →
      (∀ t, (∀ i (o : Oper), ops[i]? = some o → listed.getD i true = true → o.dst.getD 1000000 ≠ t) → look env' t = look env t) → Closed ops listed → wpAnyIn (Wd l) 0 P .any ops.toArray Q' fuel listed a w' := by
    intro fuel listed a w' G' env' hsz hfu hall hsub hs hv h1 h2 hc
    rw [hall j hjk] at hs
    simp only [cond_true] at hs
    refine ag4 ht fuel k listed a w' (Nat.le_refl _) hkl ?_ hsz hc (fun j hj => ⟨hsub j hj, hall j⟩) (hQ a w' G' (hs.weaken fun t => .inr (.inl ?_)) hv)
    · have hsub2 : ((List.range ops.length).filter fun i => Nat.ble k i).length ≤ ((List.range ops.length).filter fun i => !listed.getD i true).length := by
        have e : ((List.range ops.length).filter fun i => Nat.ble k i) = ((List.range ops.length).filter fun i => !listed.getD i true).filter fun i => Nat.ble k i := by
          rw [List.filter_filter]
          refine List.filter_congr fun x hx => ?_
          have hx := List.mem_range.1 hx
          cases hb : Nat.ble k x with
          | false => simp
          | true =>
            have := nlb hb
            have : listed.getD x true = false := by
              cases hh : listed.getD x true with
              | false => rfl
              | true => have := hsub x hx hh; omega
            simp [this]
        rw [e]; exact List.length_filter_le _ _
      have hcount : ∀ n, k ≤ n → ((List.range n).filter fun i => Nat.ble k i).length = n - k := by
        intro n
        induction n with
        | zero => intro _; simp
        | succ n ih =>
          intro hn
          rw [List.range_succ, List.filter_append, List.length_append]
          by_cases e : k ≤ n
          · have hb : Nat.ble k n = true := by simp only [Nat.ble_eq]; exact e
            rw [ih e, List.filter_cons_of_pos hb]; simp; omega
          · have hk : k = n + 1 := by omega
            have hz : ((List.range n).filter fun i => Nat.ble k i) = [] := by
              rw [List.filter_eq_nil_iff]; intro x hx hb; have := List.mem_range.1 hx; have := nlb hb; omega
            have hz2 : ([n].filter fun i => Nat.ble k i) = [] := by
              rw [List.filter_eq_nil_iff]; intro x hx hb; have := List.mem_singleton.1 hx; have := nlb hb; omega
            rw [hz, hz2]; simp; omega
      have := hcount ops.length hkl
      omega
    · obtain ⟨k1, k2⟩ := acl (ops.take k) ps env t hpl
      by_cases hex : ∃ (i : Nat) (o : Oper), (ops.take k)[i]? = some o ∧ o.dst.getD 1000000 = t
      · obtain ⟨i, o, hi, ht'⟩ := hex
        obtain ⟨hik, hio⟩ := htk' hi
        have hf := aag hok hik hio
        rw [k2 i o hi ht' fun j o' hj e => (hf.one j o' (htk' hj).1 (htk' hj).2 (ht'.trans e.symm)).symm, ← ht']
        exact (h1 i o hio (hall i hik)).symm
      · rw [k1 fun i o hi e => hex ⟨i, o, hi, e⟩]
        exact (h2 t fun i o hi hl e => hex ⟨i, o, htk (hsub i (List.getElem?_eq_some_iff.1 hi).1 hl) hi, e⟩).symm
  intro fuel
  induction fuel with
  | zero =>
    intro listed a w' G' env' hsz hfu hs hv h0 h1 h2 hc
    refine fin 0 listed a w' G' env' hsz hfu (fun i hi => ?_) h0 hs hv h1 h2 hc
    cases hl : listed.getD i true with
    | true => rfl
    | false =>
      have : i ∈ (List.range ops.length).filter fun i => !listed.getD i true := List.mem_filter.2 ⟨List.mem_range.2 (by omega), by simp [hl]⟩
      rw [List.length_eq_zero_iff.1 (Nat.le_zero.1 hfu)] at this; cases this
  | succ fuel ih =>
    intro listed a w' G' env' hsz hfu hs hv h0 h1 h2 hc
    by_cases hall : ∀ i, i < k → listed.getD i true = true
    · exact fin (fuel + 1) listed a w' G' env' hsz hfu hall h0 hs hv h1 h2 hc
    · have hready : ∃ i, i ∈ Region.ready .any ops.toArray listed := by
        have : ∃ i, i < k ∧ listed.getD i true = false := by
          refine Classical.byContradiction fun hn => hall fun i hi => ?_
          cases hb : listed.getD i true with
          | true => rfl
          | false => exact absurd ⟨i, hi, hb⟩ hn
        obtain ⟨i, ⟨hik, hif⟩, hmin⟩ := adn this
        have hio : ops[i]? = some ops[i] := by simp
        have hf := aag hok hik hio
        refine ⟨i, mem_ready.2 ⟨_, hio, hif, fun e he hb => ?_⟩⟩
        have hon := hf.back e he hb
        rw [aap hsz (by omega)]
        cases hb' : listed.getD e.on true with
        | true => rfl
        | false => have := hmin e.on ⟨by omega, hb'⟩; omega
      refine ⟨fun hr => (by obtain ⟨i, hi⟩ := hready; rw [hr] at hi; cases hi), fun i hi => ?_⟩
      obtain ⟨o, ho, hl, hrdy⟩ := mem_ready.1 hi
      have hil := (List.getElem?_eq_some_iff.1 ho).1
      have hik : i < k := by
        rcases Nat.lt_or_ge i k with h | h
        · exact h
        · exfalso
          refine hall fun j hj => ?_
          have hT := ht
          simp only [xu, Bool.and_eq_true] at hT
          have := ut hT.2 hil
          simp only [Bool.or_eq_true, Bool.and_eq_true, ho] at this
          rcases this with h' | ⟨c1, c2⟩
          · have := nlb h'; omega
          · exact ab8 hc hsz 30 i j o ho (ut c1 (by omega)) fun e he hb => by
              have h1 := hrdy e he hb
              have := afe (List.all_eq_true.1 c2 e he) hb
              rw [aap hsz (by omega)] at h1; exact h1
      obtain ⟨p, e3, e4⟩ := hget i o (htk hik ho)
      have hf := aag hok hik ho
      have hrdy' : ∀ e ∈ o.after.toList, Region.binds .any e = true → listed.getD e.on true = true := fun e he hb => by
        have h1 := hrdy e he hb
        rw [aap hsz (by have := hf.back e he hb; omega)] at h1; exact h1
      have htt : (ops.take k).take i = ops.take i := by rw [List.take_take, Nat.min_eq_left (by omega)]
      have hsame : ∀ t ∈ readsOf ops.toArray o, look env' t = look (yx env ((ops.take k).take i) (ps.take i)) t := by
        intro t ht'
        rw [htt]
        have hpl2 : ps.length = k := by rw [hpl, List.length_take]; omega
        obtain ⟨k1, k2⟩ := acl (ops.take i) (ps.take i) env t (by simp [hpl2]; omega)
        have htk2 : ∀ j o', (ops.take i)[j]? = some o' → j < i ∧ ops[j]? = some o' := fun j o' hj => by
          rw [List.getElem?_take] at hj
          split at hj
          · exact ⟨by assumption, hj⟩
          · cases hj
        by_cases hex : ∃ (j : Nat) (o' : Oper), j < k ∧ ops[j]? = some o' ∧ o'.dst.getD 1000000 = t
        · obtain ⟨j, o', hjk, hj, hjt⟩ := hex
          have hfj := aag hok hjk hj
          rcases hf.reads t ht' j o' hjk hj hjt with ⟨hlt, hb⟩ | ⟨hlt, hb⟩
          · obtain ⟨e, he, hbi, hon⟩ := afz hb
            have hlj := hrdy' e he hbi
            rw [hon] at hlj
            rw [k2 j o' (by rw [List.getElem?_take, if_pos hlt]; exact hj) hjt fun j' o'' hj' e' => (hfj.one j' o'' (by have := (htk2 j' o'' hj').1; omega) (htk2 j' o'' hj').2 (hjt.trans e'.symm)).symm, ← hjt, h1 j o' hj hlj, List.getElem?_take, if_pos hlt]
          · obtain ⟨e, he, hbi, hon⟩ := afz hb
            have hlj : listed.getD j true = false := by
              cases hlj : listed.getD j true with
              | false => rfl
              | true => have := hc j o' hj hlj e he hbi; rw [hon, hl] at this; cases this
            rw [k1 fun j' o'' hj' e' => by
              have h4 := htk2 j' o'' hj'
              have := hfj.one j' o'' (by omega) h4.2 (hjt.trans e'.symm)
              omega]
            exact h2 t fun j' o'' hj' hl' e' => by
              have hj'k := h0 j' (List.getElem?_eq_some_iff.1 hj').1 hl'
              have := hfj.one j' o'' hj'k hj' (hjt.trans e'.symm)
              subst this
              rw [hlj] at hl'; cases hl'
        · rw [k1 fun j o' hj e => hex ⟨j, o', by have := (htk2 j o' hj).1; omega, (htk2 j o' hj).2, e⟩]
          exact h2 t fun j o' hj hl' e => hex ⟨j, o', h0 j (List.getElem?_eq_some_iff.1 hj).1 hl', hj, e⟩
      have hnext : ∀ a2 w2 G2, Sim n m F G2 ((o.dst.getD 1000000, p) :: env') (bif (listed.setIfInBounds i true).getD j true then σ1 else σ0) a2 w2 → Evol m F G' w' G2 w2 → wpAnyIn (Wd l) 0 P .any ops.toArray Q' fuel (listed.setIfInBounds i true) a2 w2 := fun a2 w2 G2 hs2 hv2 => by
        refine ih (listed.setIfInBounds i true) a2 w2 G2 _ (by simpa using hsz) ?_ hs2 (hv.trans hv2) (fun j hj hl' => ?_) (fun j o' hj hl' => ?_) (fun t ht' => ?_) (hc.set (by omega) ho hrdy')
        · have hsub : ((List.range ops.length).filter fun j => !(listed.setIfInBounds i true).getD j true) = (((List.range ops.length).filter fun j => !listed.getD j true).filter fun j => !(listed.setIfInBounds i true).getD j true) := by
            rw [List.filter_filter]
            congr 1
            funext j
            rw [yt (by omega)]
            by_cases e : j = i
            · simp [e]
            · simp [e]
          rw [hsub]
          have := List.length_filter_lt_length_iff_exists (p := fun j => !(listed.setIfInBounds i true).getD j true) (l := (List.range ops.length).filter fun j => !listed.getD j true)
          have h5 := this.2 ⟨i, List.mem_filter.2 ⟨List.mem_range.2 hil, by simp [hl]⟩, by rw [yt (by omega)]; simp⟩
          omega
        · rw [yt (by omega)] at hl'
          split at hl'
          · omega
          · exact h0 j hj hl'
        · rw [qg]
          by_cases e : j = i
          · subst e; rw [ho] at hj; cases hj; rw [if_pos rfl, e3]; rfl
          · rw [yt (by omega), if_neg e] at hl'
            have hjk := h0 j (List.getElem?_eq_some_iff.1 hj).1 hl'
            rw [if_neg fun e' => e ((hf.one j o' hjk hj e'.symm).symm)]
            exact h1 j o' hj hl'
        · rw [qg, if_neg fun e => ht' i o ho (by rw [yt (by omega), if_pos rfl]) e.symm]
          exact h2 t fun j o' hj hl' => ht' j o' hj (by rw [yt (by omega)]; split <;> first | rfl | exact hl')
      rw [Nat.zero_add] at e4
      by_cases hij : i = j
      · rw [if_pos hij] at e4
        have hl' : listed.getD j true = false := by rw [← hij]; exact hl
        rw [hl'] at hs
        refine e4.go env' hsame F G' a w' hs i _ Q' (by simpa using ho) fun a2 w2 G2 hs2 hv2 => hnext a2 w2 G2 ?_ hv2
        rw [yt (by omega), if_pos hij.symm]
        exact hs2
      · rw [if_neg hij] at e4
        have hsj : (listed.setIfInBounds i true).getD j true = listed.getD j true := by rw [yt (by omega), if_neg (Ne.symm hij)]
        rw [hsj] at hnext
        cases hb : listed.getD j true with
        | true =>
          rw [hb] at hs hnext
          have hbf : ai8 ops.toArray j i = false := by
            cases hB : ai8 ops.toArray j i with
            | false => rfl
            | true =>
              have := agh hc hB hb
              rw [hl] at this; cases this
          exact (e4.2 hbf).go env' hsame F G' a w' hs i _ Q' (by simpa using ho) fun a2 w2 G2 hs2 hv2 => hnext a2 w2 G2 hs2 hv2
        | false =>
          rw [hb] at hs hnext
          have haf : apd ops.toArray j i = false := by
            cases hA : apd ops.toArray j i with
            | false => rfl
            | true =>
              obtain ⟨o1, ho1, e, he, hbi, hon⟩ := al3 hA
              have hoi : ops.toArray[i]? = some o := by simpa using ho
              rw [hoi] at ho1; cases ho1
              have := hrdy' e he hbi
              rcases hon with hon | hon
              · rw [hon, hb] at this; cases this
              · rw [agh hc hon this] at hb; cases hb
          exact (e4.1 haf).go env' hsame F G' a w' hs i _ Q' (by simpa using ho) fun a2 w2 G2 hs2 hv2 => hnext a2 w2 G2 hs2 hv2
structure DrawE (P : Program) (l : Option Nat) (n m : Nat) (all : Array Oper) (j : Nat) (σ0 σ1 : Sto) (i : Nat) (env : Env) (ops : List Oper) (K : Env → Prop) : Prop where
  go : ∃ ps, alr P l n m all j σ0 σ1 i env ops ps ∧ K (yx env ops ps)
theorem aq2 {id k j : Nat} {ops : List Oper} {env : Env} (hm : P.follows .mixedOrders = true) (hok : ae9 ops k = true) (ht : xu ops k = true) (hjk : Nat.ble (j + 1) k = true)
    (h : DrawE P l n m ops.toArray j σ0 σ1 0 env (ops.take k) fun env' => SatOps P l n m ops.toArray (ops.drop k) env' σ1 Q) : Sat P l n m (.region id ops.toArray true) env σ0 Q := by
  obtain ⟨ps, h1, h2⟩ := h
  have hjk := nlb hjk
  refine ⟨fun F G a w hs => ?_⟩
  refine wpIn_region_any hm ?_
  have hs' := hs.drew
  have hkl : k ≤ ops.length := by simp only [xu, Bool.and_eq_true] at ht; exact nlb ht.1
  have hc : ∀ (i : Nat), i < ops.length → (Array.replicate ops.toArray.size false).getD i true = false := fun i hi => by simp [Array.getD_eq_getD_getElem?, hi]
  refine arj hok ht hjk h1 (F := F) (G := G) (w := w) (fun a' w' G' hs2 hv2 => abe hv2 _ _ _ (h2.go F G' a' w' hs2)) _ _ a w.drew G env (by simp) (by have := List.length_filter_le (fun i => !(Array.replicate ops.length false).getD i true) (List.range ops.length); simpa only [List.length_range, List.size_toArray] using this) (by rw [hc j (by omega)]; exact hs') (Evol.drew hs) (fun i hi hl => ?_) (fun i o hi hl => ?_) (fun t _ => rfl) (fun i o hi hl => ?_)
  · rw [hc i hi] at hl; cases hl
  · rw [hc i (List.getElem?_eq_some_iff.1 hi).1] at hl; cases hl
  · rw [hc i (List.getElem?_eq_some_iff.1 hi).1] at hl; cases hl
end
section
variable {P : Program} {l : Option Nat} {tt : TT} {n m : Nat} {all : Array Oper} {env : Env} {σ0 σ1 : Sto} {d : Nat} {op : Op} {ty : TypeId} {pos : String} {after : Array Edge} {os : List Oper} {K : Env → Prop} {p : PV} {i j : Nat}
theorem ab6 {ops : List Oper} (h : DrawE P l n m all j σ0 σ1 i env ops K) : DrawE P l n m all j σ0 σ1 i env ops K := h
theorem aa7 (h : K env) : DrawE P l n m all j σ0 σ1 i env [] K := ⟨[], trivial, h⟩
theorem ant {o : Oper} (hij : Nat.beq i j = false) (hb : ai8 all j i = true) (h0 : StepC P l n m all env σ0 o p) (h : DrawE P l n m all j σ0 σ1 (i + 1) ((o.dst.getD 1000000, p) :: env) os K) : DrawE P l n m all j σ0 σ1 i env (o :: os) K := by
  obtain ⟨ps, h2, h3⟩ := h
  refine ⟨p :: ps, ⟨?_, h2⟩, h3⟩
  rw [if_neg fun e => by rw [e] at hij; simp at hij]
  exact ⟨fun _ => h0, fun e => by rw [hb] at e; cases e⟩
theorem avu {o : Oper} (h0 : StepL P l n m all env σ0 σ1 o p) (h : DrawE P l n m all i σ0 σ1 (i + 1) ((o.dst.getD 1000000, p) :: env) os K) : DrawE P l n m all i σ0 σ1 i env (o :: os) K := by
  obtain ⟨ps, h2, h3⟩ := h
  refine ⟨p :: ps, ⟨?_, h2⟩, h3⟩
  rw [if_pos rfl]
  exact h0
theorem anw (ht : oq P tt) {t : TypeId} {x y : Operand} {b off : Nat} {ti : TI} {cs : List PV} {q : PV} (hx : opv tt env t x = .ptr b off) (hti : tl tt t = some ti) (hi : σ0[b]? = some (.cells cs)) (hy : opv tt env t y = q) (hS : q.isS = true) (hn : Nat.beq q.cells.length ti.size = true) (h1 : q.cells.all PV.one = true) (hoff : Nat.ble (off + ti.size) cs.length = true)
    (hσ : σ1 = σ0.set b (.cells (putAt cs off q.cells))) : StepL P l n m all env σ0 σ1 ⟨none, .store t x y, ty, pos, after, none⟩ .dead := by
  subst hσ
  refine ⟨fun env0 hag F G a w hs r K Q' hr hK => ?_⟩
  have hag1 : ∀ u ∈ Operand.tmp1 x, look env0 u = look env u := fun u hu => hag u (by simp only [readsOf, Op.operands]; simp [hu])
  have hag2 : ∀ u ∈ Operand.tmp1 y, look env0 u = look env u := fun u hu => hag u (by simp only [readsOf, Op.operands]; simp [hu])
  have hrule := ah4 (P := P) (l := l) (all := all) (rest := []) (n := n) (m := m) (ty := ty) (pos := pos) (after := after) (env := env0) (σ := σ0) (Q := fun e env' σ' => e = .normal ∧ env' = env0 ∧ σ' = σ0.set b (.cells (putAt cs off q.cells))) ht ((af5 hag1).trans hx) hti hi ((af5 hag2).trans hy) hS (Nat.eq_of_beq_eq_true hn) h1 (nlb hoff) (ak ⟨rfl, rfl, rfl⟩)
  have h1 := hrule.go F G a w hs
  unfold wpOpIn
  simp only [hr]
  rw [if_pos (by simp [Region.wanted])]
  simp only [wpListIn] at h1
  rw [if_pos (by simp [Region.wanted])] at h1
  refine ado (fun a' w' q => ?_) (fun e a' w' hne q => ?_) h1
  · obtain ⟨G', env', σ', ⟨_, rfl, rfl⟩, hs', hv⟩ := q
    exact hK _ _ _ (hs'.weaken fun t' => by rw [qg]; split; exact .inl rfl; exact .inr (.inl rfl)) hv
  · obtain ⟨G', env', σ', ⟨he, _⟩, _⟩ := q
    exact absurd he hne
theorem yu {τ ex0 ex1 : Sto} (ht : oq P tt) {t : TypeId} {x y : Operand} {k off : Nat} {ti : TI} {cs : List PV} {q : PV} (hx : opv tt env t x = .ptr (τ.length + k) off) (hti : tl tt t = some ti) (hi : ex0[k]? = some (.cells cs)) (hy : opv tt env t y = q) (hS : q.isS = true) (hn : Nat.beq q.cells.length ti.size = true) (h1 : q.cells.all PV.one = true) (hoff : Nat.ble (off + ti.size) cs.length = true)
    (hσ : ex1 = ex0.set k (.cells (putAt cs off q.cells))) (h : DrawE P l n m all i (τ ++ ex0) (τ ++ ex1) (i + 1) ((1000000, .dead) :: env) os K) : DrawE P l n m all i (τ ++ ex0) (τ ++ ex1) i env (⟨none, .store t x y, ty, pos, after, none⟩ :: os) K :=
  avu (anw ht hx hti ((wo k).trans hi) hy hS hn h1 hoff (by rw [abr, hσ])) h
theorem aa3 (hb : ai8 all j i = true) (hl0 : LookAt P n m (yj env (readsOf all ⟨some d, op, ty, pos, after, none⟩)) σ0 ⟨some d, op, ty, pos, after, none⟩ p)
    (hij : Nat.beq i j = false) (hd : Nat.ble (d + 1) n = true) (hnd : agl op = false) (h : DrawE P l n m all j σ0 σ1 (i + 1) ((d, p) :: env) os K) : DrawE P l n m all j σ0 σ1 i env (⟨some d, op, ty, pos, after, none⟩ :: os) K :=
  ant hij hb (agb ⟨d, rfl, ltn hd⟩ (fun c e => by rw [show op = .defer c from e] at hnd; cases hnd) (.free rfl hl0)) h
theorem aad {fo : Operand} {args : Array Operand} {ats : Array TypeId} {f : FuncId} {ps : List PV} (hb : ai8 all j i = true) (hcal : jd P f) (hc0 : jo P f ps σ0 fun x σ' => x = p ∧ σ' = σ0) (hfo : fo = .func f) (hps : zy tt env args.toList ats.toList = ps) (hlen : Nat.ble args.size ats.size = true)
    (htup : ps.all (fun p => !p.isTup) = true) (hij : Nat.beq i j = false) (hd : Nat.ble (d + 1) n = true) (h : DrawE P l n m all j σ0 σ1 (i + 1) ((d, p) :: env) os K) : DrawE P l n m all j σ0 σ1 i env (⟨some d, .call ⟨.value fo, args, ats⟩, ty, pos, after, none⟩ :: os) K :=
  ant hij hb (nu (tt := tt) hcal hc0 hfo hps hlen htup hd) h
theorem xg {τ ex0 ex1 : Sto} {Q : Post} {id k j : Nat} {dj : Option Nat} {ops : List Oper} (hdj : (ops[j]?).map (·.dst) = some dj) (hm : P.follows .mixedOrders = true) (hok : ae9 ops k = true) (ht : xu ops k = true) (hjk : Nat.ble (j + 1) k = true)
    (h : DrawE P l n m ops.toArray j (τ ++ ex0) (τ ++ ex1) 0 env (ops.take k) fun env' => SatOps P l n m ops.toArray (ops.drop k) env' (τ ++ ex1) Q) : Sat P l n m (.region id ops.toArray true) env (τ ++ ex0) Q := aq2 hm hok ht hjk h
end
end Go.Proofs.Ytbpjaiemlkcccaa.Pv
end
section
/- Struct values whose nil slices are known to be nil; stored, they are the box's own. -/
namespace Go.Proofs.Ytbpjaiemlkcccaa.Pv
open Go
def alq : PV → PV
  | .sl .sh sz [] => .nils sz
  | p => p
def adf : PV → PV
  | .nils sz => .sl .ow sz []
  | p => p
theorem ai4 {G : Gh} {w : World} {v : Value} {c : PV} (h : RepS G w v c) : RepO G w v (adf c) ∧ ownB v (adf c) = none := by
  unfold adf
  split
  · rename_i sz
    have e : v = .slice none 0 0 := by cases h with | pl h => cases h; rfl
    subst e
    exact ⟨.ow none 0 sz [] (.sl0 none 0 sz) (fun h => by simp at h), rfl⟩
  · exact ⟨.sh h, yz h⟩
theorem aon {c : PV} {k : Nat} (h : c.lt k) : (adf c).lt k := by unfold adf; split <;> first | trivial | exact h
theorem as8 {v : Value} {p : PV} (h : zc1 v p = true) : zc1 v (alq p) = true := by
  unfold alq
  split
  · rename_i sz
    unfold zc1 at h
    split at h <;> first | rfl | (rename_i h'; cases h'; done) | cases h | (simp_all; done) | skip
    all_goals simp_all [zc1]
  · exact h
theorem ani : ∀ {vs : List Value} {ps : List PV}, zcs vs ps = true → zcs vs (ps.map alq) = true
  | [], [], _ => rfl
  | v :: r, p :: q, h => by
    simp only [zcs, List.map_cons, Bool.and_eq_true] at h ⊢
    exact ⟨as8 h.1, ani h.2⟩
  | [], _ :: _, h => by simp [zcs] at h
  | _ :: _, [], h => by simp [zcs] at h
def asc (i : TI) : TI := ⟨i.desc, i.size, i.bytes, i.zero.map alq⟩
def ap5 (tt : TT) : TT := tt.map fun x => (x.1, asc x.2)
theorem amc : ∀ (tt : TT) (t : Nat), tl (ap5 tt) t = (tl tt t).map asc
  | [], _ => rfl
  | (k, v) :: r, t => by
    simp only [ap5, List.map_cons, tl]
    cases Nat.beq k t with
    | true => rfl
    | false => exact amc r t
theorem oq.nils {P : Program} {tt : TT} (ht : oq P tt) : oq P (ap5 tt) := by
  intro t i h
  rw [amc, Option.map_eq_some_iff] at h
  obtain ⟨i0, h, rfl⟩ := h
  obtain ⟨h1, h2, info, z, h3, h4, h5, h6, h7⟩ := ht t i0 h
  exact ⟨h1, by simp only [asc, List.length_map]; exact h2, info, z, h3, h4, h5, h6, ani h7⟩
section
variable {P : Program} {l : Option Nat} {tt : TT} {n m : Nat} {all : Array Oper} {rest : List Oper} {env : Env} {σ : Sto} {Q : Post} {d : Nat} {ty : TypeId} {pos : String} {after : Array Edge}
theorem aro (ht : oq P tt) {t : TypeId} {x y : Operand} {i off : Nat} {ti : TI} {cs : List PV} {p : PV} (hx : opv tt env t x = .ptr i off) (hti : tl tt t = some ti)
    (hi : σ[i]? = some (.cells cs)) (hy : opv tt env t y = p) (hS : p.isS = true) (hn : p.cells.length = ti.size) (h1 : p.cells.all PV.one = true) (hoff : off + ti.size ≤ cs.length)
    (h : SatOps P l n m all rest env (σ.set i (.cells (putAt cs off (p.cells.map adf)))) Q) : SatOps P l n m all (⟨none, .store t x y, ty, pos, after, none⟩ :: rest) env σ Q := by
  refine ym rfl (by simp) fun F G a w hs => ?_
  have hxo := o7 hs tt t x
  rw [hx] at hxo
  have ev := (hxo.toS rfl).ptrv
  have hyo := o7 hs tt t y
  have hyl := yf hs tt t y
  rw [hy] at hyo hyl
  obtain ⟨k1, k2⟩ := ad7 (hyo.toS hS)
  obtain ⟨hK, hsp, hcell⟩ := hs.sto i _ hi
  have hst := hs.stolt i _ hi
  simp only [Ent.lt] at hst
  have hT := ht _ _ hti
  have hspB := hsp
  obtain ⟨⟨arr, T, fz, a1, a2, a3⟩, hshB, hnfB⟩ := hsp
  have hlen : (a.eval y).cells.toList.length = ti.size := by simp [k1, hn]
  have hthere : ∀ j, j < cs.length → (w.cell? ⟨G.bs i, j, none⟩).isSome = true := fun j hj => by
    obtain ⟨v, hv, _⟩ := hcell j cs[j] (by simp [hj])
    rw [hv]; rfl
  have hrun := run_storeCells_cells (P := P) (G.bs i) off (a.eval y).cells.toList 0 w (fun j hj => by rw [Nat.add_zero]; exact hthere _ (by omega)) (fun j hj => by rw [Nat.add_zero]; exact a3 _ (Nat.zero_le _) (by omega)) (fun v hv => by
    obtain ⟨j, hj, rfl⟩ := List.getElem_of_mem hv
    have hj' : j < p.cells.length := by simp at hj; omega
    have := k2 j (a.eval y).cells.toList[j] p.cells[j] (by simp at hj ⊢) (by simp [hj'])
    exact (RepO.one (.sh this) (List.all_eq_true.1 h1 _ (List.getElem_mem hj'))).1)
  rw [Nat.add_zero] at hrun
  obtain ⟨q1, q2⟩ := aax cs off (p.cells.map adf) (by rw [List.length_map]; omega)
  have hnew : ∀ j c, (putAt cs off (p.cells.map adf))[j]? = some c → ∃ v, (w.setCells (G.bs i) off (a.eval y).cells.toList).cell? ⟨G.bs i, j, none⟩ = some v ∧ RepO G w v c ∧ ((off ≤ j ∧ j < off + ti.size ∧ ownB v c = none) ∨ (cs[j]? = some c ∧ w.cell? ⟨G.bs i, j, none⟩ = some v)) := by
    intro j c hc
    rw [q2] at hc
    split at hc
    · rename_i hj
      rw [List.length_map, hn] at hj
      rw [List.getElem?_map, Option.map_eq_some_iff] at hc
      obtain ⟨c0, hc, rfl⟩ := hc
      have hjl : j - off < (a.eval y).cells.toList.length := by omega
      have := World.cell?_setCells_in (G.bs i) (a.eval y).cells.toList off w (fun j hj => hthere _ (by omega)) (j - off) hjl
      rw [show off + (j - off) = j by omega] at this
      have hR := k2 (j - off) (a.eval y).cells.toList[j - off] c0 (by rw [Array.getElem_toList]; exact Array.getElem?_eq_getElem _) hc
      exact ⟨_, this, (ai4 hR).1, .inl ⟨hj.1, hj.2, (ai4 hR).2⟩⟩
    · rename_i hj
      rw [List.length_map, hn] at hj
      obtain ⟨v, hv, hR⟩ := hcell j c hc
      exact ⟨v, by rw [World.cell?_setCells_out _ _ _ _ _ (fun _ _ => by simp only; omega)]; exact hv, hR, .inr ⟨hc, hv⟩⟩
  obtain ⟨s1, s2, s3, s4⟩ := aef (G.bs i) (a.eval y).cells.toList off w
  have hfin := hs.boxSet (cs' := putAt cs off (p.cells.map adf)) hi s1 (fun b hb => zb _ _ _ _ _ hb) (af7 ⟨⟨arr, T, fz, a1, by rw [q1]; exact a2, fun j hj hk => a3 j hj (by omega)⟩, hshB, hnfB⟩ _ _ _) (by
      rw [mo]; intro c hc
      obtain ⟨j, hj, rfl⟩ := List.getElem_of_mem hc
      have hc' := q2 j
      rw [List.getElem?_eq_getElem hj] at hc'
      split at hc'
      · rw [List.getElem?_map] at hc'
        obtain ⟨c0, h3, h4⟩ := Option.map_eq_some_iff.1 hc'.symm
        rw [← h4]
        exact aon (mo.1 (cells_lt hyl) _ (List.mem_of_getElem? h3))
      · exact mo.1 hst _ (List.mem_of_getElem? hc'.symm)) (fun j c hc => let ⟨v, h1, h2, _⟩ := hnew j c hc; ⟨v, h1, h2⟩) (fun j v c b hv hc hb => by
      obtain ⟨v', h1, _, h3⟩ := hnew j c hc
      rw [hv] at h1; cases h1
      rcases h3 with ⟨_, _, h3⟩ | ⟨h3, h4⟩
      · rw [h3] at hb; cases hb
      · have := uf (env := env) (a := a) hi h3 h4 hb
        exact ⟨hs.fr _ b this, fun l' hl' => hs.uniq _ _ b hl' this⟩) (fun j j' v c v' c' b hv hc hb hv' hc' hb' => by
      obtain ⟨u, h1, _, h3⟩ := hnew j c hc
      obtain ⟨u', h1', _, h3'⟩ := hnew j' c' hc'
      rw [hv] at h1; cases h1
      rw [hv'] at h1'; cases h1'
      rcases h3 with ⟨_, _, h3⟩ | ⟨h3, h4⟩
      · rw [h3] at hb; cases hb
      · rcases h3' with ⟨_, _, h3'⟩ | ⟨h3', h4'⟩
        · rw [h3'] at hb'; cases hb'
        · have := hs.uniq _ _ b (uf (env := env) (a := a) hi h3 h4 hb) (uf (env := env) (a := a) hi h3' h4' hb')
          cases this; rfl)
  refine ⟨undef, _, G, env, _, .inr ⟨?_, rfl⟩, hfin, Evol.boxSet hs hi off _, h⟩
  have hsize : (a.eval y).cells.size = ti.size := by omega
  simp [execOp, ev, Instr.storeAt, Instr.sureAddr, storeVar, hT.rsize w, hsize, hrun]
theorem yg {τ ex : Sto} (ht : oq P tt) {t : TypeId} {x y : Operand} {k off : Nat} {ti : TI} {cs : List PV} {p : PV} (hx : opv tt env t x = .ptr (τ.length + k) off) (hti : tl tt t = some ti)
    (hi : ex[k]? = some (.cells cs)) (hy : opv tt env t y = p) (hS : p.isS = true) (hn : Nat.beq p.cells.length ti.size = true) (h1 : p.cells.all PV.one = true) (hoff : Nat.ble (off + ti.size) cs.length = true)
    (h : SatOps P l n m all rest env (τ ++ ex.set k (.cells (putAt cs off (p.cells.map adf)))) Q) : SatOps P l n m all (⟨none, .store t x y, ty, pos, after, none⟩ :: rest) env (τ ++ ex) Q := by
  refine aro ht hx hti ((wo k).trans hi) hy hS (Nat.eq_of_beq_eq_true hn) h1 (nlb hoff) ?_
  rw [abr]; exact h
theorem yw {fo : Operand} {args : Array Operand} {ats : Array TypeId} {f : FuncId} {ps : List PV} {p : PV} {j t : Nat} {want b : Bool} (hj : (all[j]?).bind (·.dst) = some t) (hb : look env t = .bool b) (hw : b = want)
    (hcal : jd P f) (hc : jo P f ps σ fun x σ' => x = p ∧ σ' = σ) (hfo : fo = .func f) (hps : zy tt env args.toList ats.toList = ps) (hlen : Nat.ble args.size ats.size = true)
    (htup : ps.all (fun p => !p.isTup) = true) (hd : Nat.ble (d + 1) n = true) : StepC P l n m all env σ ⟨some d, .call ⟨.value fo, args, ats⟩, ty, pos, after, some (j, want)⟩ p := by
  refine ⟨fun env0 hag F G a w hs i K Q' hi hK => ?_⟩
  have hb0 : look env0 t = .bool b := (hag t (by simp [readsOf, hj])).trans hb
  have hag' : ∀ t ∈ args.toList.flatMap Operand.tmp1, look env0 t = look env t := fun t ht => hag t (by
    subst hfo
    simp only [readsOf, Op.operands, Call.operands]
    rw [Array.toList_append, List.flatMap_append]
    exact List.mem_append_left _ (List.mem_append_right _ ht))
  have hrule := cz (tt := tt) (l := l) (all := all) (rest := []) (n := n) (m := m) (d := d) (ty := ty) (pos := pos) (after := after) (env := env0) (Q := fun e env' σ' => e = .normal ∧ env' = (d, p) :: env0 ∧ σ' = σ) hcal hc hfo ((agd _ _ hag').trans hps) hlen htup hd (ak ⟨rfl, rfl, rfl⟩)
  have h1 := hrule.go F G a w hs
  unfold wpOpIn
  simp only [hi]
  rw [if_pos (by simp [Region.wanted, ad5 hs hj hb0, hw])]
  simp only [wpListIn] at h1
  rw [if_pos (by simp [Region.wanted])] at h1
  refine ado (fun a' w' q => ?_) (fun e a' w' hne q => ?_) h1
  · obtain ⟨G', env', σ', ⟨_, rfl, rfl⟩, hs', hv⟩ := q
    exact hK _ _ _ hs' hv
  · obtain ⟨G', env', σ', ⟨he, _⟩, _⟩ := q
    exact absurd he hne
end
end Go.Proofs.Ytbpjaiemlkcccaa.Pv
end
section
/- A scope in which the run jumps back to a label. -/
namespace Go.Proofs.Ytbpjaiemlkcccaa.Pv
open Go
section
variable {P : Program} {F : Fence} {n : Nat} {a : Act} {w : World} {Q : Exit → Act → World → Prop} {b : Frame} {k : List Item} {cs : List Frame}
end
def ayv (lb : Nat) (J : Env → Sto → Prop) (Q : Post) : Post
  | .goto l', env, σ => l' = lb ∧ J env σ
  | e, env, σ => Q e env σ
structure jumpTo (lb : Nat) (J : Env → Sto → Prop) (Q : Post) (e : Exit) (env : Env) (σ : Sto) : Prop where
  go : ayv lb J Q e env σ
section
variable {P : Program} {l : Option Nat} {n m : Nat} {env : Env} {σ : Sto} {Q : Post} {lb : Nat} {J : Env → Sto → Prop}
end
end Go.Proofs.Ytbpjaiemlkcccaa.Pv
end
section
/- Regions that draw their order: any number of steps turn the store, one behind the other; a step may write more slots than its own (what it takes the ownership of). -/
namespace Go.Proofs.Ytbpjaiemlkcccaa.Pv
open Go
abbrev Ws := List (Nat × PV)
def aki : List Oper → List Nat → List Nat
  | [], acc => acc
  | o :: os, acc => aki os (acc ++ [o.after.toList.foldl (fun m e => bif Region.binds .any e then m ||| (1 <<< e.on) ||| acc.getD e.on 0 else m) 0])
def zm (ops : List Oper) : List Nat := aki ops []
def anc (A : List Nat) (i j : Nat) : Bool := (A.getD i 0).testBit j
def aub (ops : List Oper) (acc : List Nat) : Prop := ∀ i o, i < acc.length → ops[i]? = some o → ∀ j, anc acc i j = true → ∀ listed : Array Bool, Closed ops listed → (∀ e ∈ o.after.toList, Region.binds .any e = true → listed.getD e.on true = true) → listed.getD j true = true
theorem amz {acc : List Nat} {j : Nat} : ∀ (es : List Edge) (m : Nat), (es.foldl (fun m e => bif Region.binds .any e then m ||| (1 <<< e.on) ||| acc.getD e.on 0 else m) m).testBit j = true →
    m.testBit j = true ∨ ∃ e ∈ es, Region.binds .any e = true ∧ (e.on = j ∨ anc acc e.on j = true)
  | [], m, h => .inl h
  | e :: es, m, h => by
    rw [List.foldl_cons] at h
    rcases amz es _ h with h1 | ⟨e', he', h1⟩
    · cases hb : Region.binds .any e with
      | false => rw [hb] at h1; exact .inl h1
      | true =>
        rw [hb] at h1
        simp only [cond_true, Nat.testBit_or, Bool.or_eq_true] at h1
        rcases h1 with (h1 | h1) | h1
        · exact .inl h1
        · refine .inr ⟨e, List.mem_cons_self, hb, .inl ?_⟩
          rw [Nat.one_shiftLeft, Nat.testBit_two_pow] at h1
          exact of_decide_eq_true h1
        · exact .inr ⟨e, List.mem_cons_self, hb, .inr h1⟩
    · exact .inr ⟨e', List.mem_cons_of_mem _ he', h1⟩
theorem aoe {ops : List Oper} : ∀ (os : List Oper) (acc : List Nat), (∀ i, os[i]? = ops[acc.length + i]?) → aub ops acc → aub ops (aki os acc)
  | [], acc, _, h => h
  | o :: os, acc, hos, h => by
    refine aoe os _ (fun i => ?_) fun i o' hi ho' j hj listed hc hr => ?_
    · have := hos (i + 1)
      rw [List.getElem?_cons_succ] at this
      rw [this, List.length_append, List.length_cons, List.length_nil]
      congr 1
      omega
    · rw [List.length_append, List.length_cons, List.length_nil] at hi
      by_cases e : i < acc.length
      · refine h i o' e ho' j ?_ listed hc hr
        simpa [anc, List.getD_eq_getElem?_getD, List.getElem?_append_left e] using hj
      · have hi' : i = acc.length := by omega
        subst hi'
        have ho : ops[acc.length]? = some o := by have := hos 0; simpa using this.symm
        rw [ho] at ho'; cases ho'
        simp only [anc, List.getD_eq_getElem?_getD, List.getElem?_concat_length, Option.getD_some] at hj
        rcases amz (acc := acc) (j := j) _ _ (by simpa only [List.getD_eq_getElem?_getD] using hj) with h1 | ⟨e', he', hb, h1⟩
        · simp at h1
        · have hl := hr e' he' hb
          rcases h1 with h1 | h1
          · rw [← h1]; exact hl
          · by_cases e2 : e'.on < acc.length
            · cases ho2 : ops[e'.on]? with
              | none =>
                have := List.getElem?_eq_none_iff.1 ho2
                have := (List.getElem?_eq_some_iff.1 ho).1
                omega
              | some o2 => exact h e'.on o2 e2 ho2 j h1 listed hc (hc e'.on o2 ho2 hl)
            · have : acc.getD e'.on 0 = 0 := by rw [List.getD_eq_getElem?_getD, List.getElem?_eq_none (by omega)]; rfl
              rw [anc, this, Nat.zero_testBit] at h1; cases h1
theorem amj : ∀ (os : List Oper) (acc : List Nat), (aki os acc).length = acc.length + os.length
  | [], acc => by simp [aki]
  | o :: os, acc => by simp only [aki]; rw [amj os]; simp; omega
theorem af6 {ops : List Oper} {i j : Nat} {o : Oper} (ho : ops[i]? = some o) (h : anc (zm ops) i j = true) {listed : Array Bool} (hc : Closed ops listed) (hr : ∀ e ∈ o.after.toList, Region.binds .any e = true → listed.getD e.on true = true) : listed.getD j true = true :=
  aoe ops [] (fun i => by simp) (fun i o hi => by simp at hi) i o (by rw [amj]; have := (List.getElem?_eq_some_iff.1 ho).1; simpa using this) ho j h listed hc hr
theorem ad3 {ops : List Oper} {i j : Nat} {o : Oper} (ho : ops[i]? = some o) (h : anc (zm ops) i j = true) {listed : Array Bool} (hc : Closed ops listed) (hl : listed.getD i true = true) : listed.getD j true = true := af6 ho h hc (hc i o ho hl)
def okG (ops : List Oper) (k : Nat) (keys : List (List Nat)) (js : List Nat) : Bool :=
  let A := zm ops
  Nat.beq keys.length k && ((List.range k).all fun i => match ops[i]? with
    | none => false
    | some o => (o.after.toList.all fun e => !Region.binds .any e || Nat.ble (e.on + 1) i) &&
        (List.range k).all fun j => Nat.beq i j ||
          (((keys.getD i []).all fun t => !(keys.getD j []).any (Nat.beq t)) || (Nat.ble (i + 1) j && anc A j i) || (Nat.ble (j + 1) i && anc A i j)) &&
          ((readsOf ops.toArray o).all fun t => !(keys.getD j []).any (Nat.beq t) || (Nat.ble (j + 1) i && anc A i j) || (Nat.ble (i + 1) j && anc A j i))) &&
  ((List.range js.length).all fun b => Nat.ble (js.getD b 0 + 1) k && (List.range b).all fun c => anc A (js.getD b 0) (js.getD c 0) && !Nat.beq (js.getD b 0) (js.getD c 0))
structure FactsG (ops : List Oper) (k : Nat) (keys : List (List Nat)) (i : Nat) (o : Oper) : Prop where
  back : ∀ e ∈ o.after.toList, Region.binds .any e = true → e.on < i
  writes : ∀ t ∈ keys.getD i [], ∀ j, j < k → j ≠ i → t ∈ keys.getD j [] → (i < j ∧ anc (zm ops) j i = true) ∨ (j < i ∧ anc (zm ops) i j = true)
  reads : ∀ t ∈ readsOf ops.toArray o, ∀ j, j < k → j ≠ i → t ∈ keys.getD j [] → (j < i ∧ anc (zm ops) i j = true) ∨ (i < j ∧ anc (zm ops) j i = true)
theorem aoh {l : List Nat} {t : Nat} (h : t ∈ l) : l.any (Nat.beq t) = true := List.any_eq_true.2 ⟨t, h, by simp⟩
theorem afv {ops : List Oper} {k : Nat} {keys : List (List Nat)} {js : List Nat} (h : okG ops k keys js = true) {i : Nat} {o : Oper} (hik : i < k) (hi : ops[i]? = some o) : FactsG ops k keys i o := by
  simp only [okG, Bool.and_eq_true] at h
  have h1 := ut h.1.2 hik
  simp only [hi, Bool.and_eq_true] at h1
  obtain ⟨h3, h4⟩ := h1
  refine ⟨fun e he hb => afe (List.all_eq_true.1 h3 e he) hb, fun t ht j hjk hne hj => ?_, fun t ht j hjk hne hj => ?_⟩
  · have h5 := ut h4 hjk
    simp only [Bool.or_eq_true, Bool.and_eq_true] at h5
    rcases h5 with h5 | ⟨h5, _⟩
    · exact absurd (Nat.eq_of_beq_eq_true h5).symm hne
    · rcases h5 with (h5 | h5) | h5
      · have := List.all_eq_true.1 h5 t ht
        rw [aoh hj] at this; cases this
      · exact .inl ⟨nlb h5.1, h5.2⟩
      · exact .inr ⟨nlb h5.1, h5.2⟩
  · have h5 := ut h4 hjk
    simp only [Bool.or_eq_true, Bool.and_eq_true] at h5
    rcases h5 with h5 | ⟨_, h5⟩
    · exact absurd (Nat.eq_of_beq_eq_true h5).symm hne
    · have := List.all_eq_true.1 h5 t ht
      rw [aoh hj] at this
      simp only [Bool.not_true, Bool.false_or, Bool.or_eq_true, Bool.and_eq_true] at this
      rcases this with h6 | h6
      · exact .inl ⟨nlb h6.1, h6.2⟩
      · exact .inr ⟨nlb h6.1, h6.2⟩
def yn : Nat → Env → List Ws → (Nat → Bool) → Env
  | _, env, [], _ => env
  | b, env, ws :: r, s => yn (b + 1) (bif s b then ws ++ env else env) r s
theorem adr {ws : Ws} {env env' : Env} {t : Nat} (h : t ∉ ws.map (·.1) → look env t = look env' t) : look (ws ++ env) t = look (ws ++ env') t := by
  induction ws with
  | nil => exact h (by simp)
  | cons x r ih =>
    obtain ⟨d, p⟩ := x
    simp only [List.cons_append, qg]
    by_cases e : t = d
    · rw [if_pos e, if_pos e]
    · rw [if_neg e, if_neg e]
      exact ih fun hn => h (by simp only [List.map_cons, List.mem_cons, not_or]; exact ⟨e, hn⟩)
theorem acr {ws : Ws} {env : Env} {t : Nat} (h : t ∉ ws.map (·.1)) : look (ws ++ env) t = look env t := by
  induction ws with
  | nil => rfl
  | cons x r ih =>
    obtain ⟨d, p⟩ := x
    simp only [List.map_cons, List.mem_cons, not_or] at h
    simp only [List.cons_append, qg]
    rw [if_neg h.1]; exact ih h.2
theorem ae4 {t : Nat} {s s' : Nat → Bool} : ∀ (wss : List Ws) (b : Nat) (env env' : Env), (∀ i ws, wss[i]? = some ws → t ∈ ws.map (·.1) → s (b + i) = s' (b + i)) → look env t = look env' t → look (yn b env wss s) t = look (yn b env' wss s') t
  | [], _, _, _, _, he => he
  | ws :: r, b, env, env', h, he => by
    refine ae4 r (b + 1) _ _ (fun i ws' hi ht => ?_) ?_
    · rw [show b + 1 + i = b + (i + 1) by omega]; exact h (i + 1) ws' (by simpa using hi) ht
    · by_cases ht : t ∈ ws.map (·.1)
      · have := h 0 ws (by simp) ht
        rw [Nat.add_zero] at this
        rw [this]
        cases s' b
        · exact he
        · exact adr fun hn => absurd ht hn
      · have e1 : look (bif s b then ws ++ env else env) t = look env t := by cases s b <;> first | rfl | exact acr ht
        have e2 : look (bif s' b then ws ++ env' else env') t = look env' t := by cases s' b <;> first | rfl | exact acr ht
        rw [e1, e2, he]
theorem ads {t : Nat} {s : Nat → Bool} : ∀ (wss : List Ws) (b : Nat) (env : Env), (∀ i ws, wss[i]? = some ws → t ∈ ws.map (·.1) → s (b + i) = false) → look (yn b env wss s) t = look env t
  | [], _, _, _ => rfl
  | ws :: r, b, env, h => by
    show look (yn (b + 1) (bif s b then ws ++ env else env) r s) t = look env t
    rw [ads r (b + 1) _ fun i ws' hi ht => by rw [show b + 1 + i = b + (i + 1) by omega]; exact h (i + 1) ws' (by simpa using hi) ht]
    by_cases ht : t ∈ ws.map (·.1)
    · have := h 0 ws (by simp) ht
      rw [Nat.add_zero] at this
      rw [this]; rfl
    · cases s b
      · rfl
      · exact acr ht
theorem aja {t q : Nat} {s : Nat → Bool} {wq : Ws} (hq : s q = false) : ∀ (wss : List Ws) (b : Nat) (env : Env), b ≤ q → wss[q - b]? = some wq → (∀ i ws, wss[i]? = some ws → t ∈ wq.map (·.1) → t ∈ ws.map (·.1) → q < b + i → s (b + i) = false) →
    look (wq ++ yn b env wss s) t = look (yn b env wss fun i => s i || Nat.beq i q) t
  | [], b, env, _, h, _ => by simp at h
  | ws :: r, b, env, hb, h, hn => by
    show look (wq ++ yn (b + 1) (bif s b then ws ++ env else env) r s) t = look (yn (b + 1) (bif (s b || Nat.beq b q) then ws ++ env else env) r _) t
    by_cases e : b = q
    · subst e
      simp only [Nat.sub_self, List.getElem?_cons_zero, Option.some.injEq] at h
      subst h
      have hbb : Nat.beq b b = true := by simp
      rw [hq, hbb]
      simp only [Bool.false_or, cond_false, cond_true]
      by_cases ht : t ∈ ws.map (·.1)
      · rw [ads r (b + 1) (ws ++ env) fun i ws' hi ht' => by
          have h1 := hn (i + 1) ws' (by simpa using hi) ht ht' (by omega)
          rw [show b + 1 + i = b + (i + 1) by omega, h1]
          simp only [Bool.false_or]
          cases hx : Nat.beq (b + (i + 1)) b with
          | false => rfl
          | true => have := Nat.eq_of_beq_eq_true hx; omega]
        exact adr fun hn => absurd ht hn
      · rw [acr ht]
        refine ae4 r (b + 1) _ _ (fun i ws' hi ht' => ?_) (acr ht).symm
        cases hx : Nat.beq (b + 1 + i) b with
        | false => simp
        | true => have := Nat.eq_of_beq_eq_true hx; omega
    · have hbq : Nat.beq b q = false := by
        cases hx : Nat.beq b q with
        | false => rfl
        | true => exact absurd (Nat.eq_of_beq_eq_true hx) e
      rw [hbq, Bool.or_false]
      have hsub : q - b = (q - (b + 1)) + 1 := by omega
      rw [hsub, List.getElem?_cons_succ] at h
      exact aja hq r (b + 1) _ (by omega) h fun i ws' hi ht ht' hlt => by
        rw [show b + 1 + i = b + (i + 1) by omega] at hlt ⊢
        exact hn (i + 1) ws' (by simpa using hi) ht ht' hlt
def stg (js : List Nat) (s : Nat → Bool) : Nat := (js.filter s).length
section
variable {P : Program} {l : Option Nat} {n m : Nat} {Q : Post}
structure StepG (P : Program) (l : Option Nat) (n m : Nat) (all : Array Oper) (env : Env) (σ0 σ1 : Sto) (o : Oper) (ws : Ws) : Prop where
  go : ∀ (env0 : Env), (∀ t ∈ readsOf all o, look env0 t = look env t) → ∀ F G a w, Sim n m F G env0 σ0 a w → ∀ (i : Nat) (K : Act → World → Prop) (Q' : Exit → Act → World → Prop), all[i]? = some o →
    (∀ a' w' G', Sim n m F G' (ws ++ env0) σ1 a' w' → Evol m F G w G' w' → K a' w') → wpOpIn (Wd l) 0 P all Q' i K a w
theorem atg {all : Array Oper} {env : Env} {σ0 σ1 : Sto} {o : Oper} {ws : Ws}
    (h : ∀ env0 : Env, SatOps P l n m all [o] (yj env (readsOf all o) ++ env0) σ0 fun e env' σ' => e = .normal ∧ env' = ws ++ (yj env (readsOf all o) ++ env0) ∧ σ' = σ1) : StepG P l n m all env σ0 σ1 o ws := by
  refine ⟨fun env0 hag F G a w hs i K Q' hi hK => ?_⟩
  have hlk : ∀ t, look (yj env (readsOf all o) ++ env0) t = look env0 t := by
    intro t
    by_cases ht : t ∈ (yj env (readsOf all o)).map (·.1)
    · have key : ∀ (ts : List Nat), (∀ u ∈ ts, look env0 u = look env u) → look (yj env ts ++ env0) t = look env0 t := by
        intro ts
        induction ts with
        | nil => intro _; rfl
        | cons u r ih =>
          intro hu
          show look ((u, look env u) :: (yj env r ++ env0)) t = look env0 t
          rw [qg]
          by_cases e : t = u
          · subst e; rw [if_pos rfl]; exact (hu t List.mem_cons_self).symm
          · rw [if_neg e]; exact ih fun v hv => hu v (List.mem_cons_of_mem _ hv)
      exact key _ hag
    · exact acr ht
  have h1 := (h env0).go F G a w (hs.weaken fun t => .inr (.inl (hlk t)))
  have hfin : ∀ a' w', abz n m F G w (fun e env' σ' => e = .normal ∧ env' = ws ++ (yj env (readsOf all o) ++ env0) ∧ σ' = σ1) .normal a' w' → K a' w' := by
    rintro a' w' ⟨G', env', σ', ⟨_, rfl, rfl⟩, hs', hv⟩
    exact hK _ _ _ (hs'.weaken fun t => .inr (.inl (adr fun _ => (hlk t).symm))) hv
  unfold wpOpIn
  simp only [hi]
  simp only [wpListIn] at h1
  split
  · rename_i hw
    rw [if_pos hw] at h1
    refine ado (fun a' w' q => hfin a' w' q) (fun e a' w' hne q => ?_) h1
    obtain ⟨G', env', σ', ⟨he, _⟩, _⟩ := q
    exact absurd he hne
  · rename_i hw
    rw [if_neg hw] at h1
    exact ⟨h1.1, hfin _ _ h1.2⟩
def agc (A : List Nat) (js : List Nat) (i a : Nat) : Bool :=
  (List.range js.length).all fun b => (!anc A i (js.getD b 0) || Nat.ble (b + 1) a) && (!anc A (js.getD b 0) i || Nat.ble a b)
def zt (js : List Nat) (i : Nat) : Option Nat := (List.range js.length).find? fun b => Nat.beq (js.getD b 0) i
def aln (P : Program) (l : Option Nat) (n m : Nat) (all : Array Oper) (A : List Nat) (keys : List (List Nat)) (js : List Nat) (σs : Nat → Sto) : Nat → Env → List Oper → List Ws → Prop
  | _, _, [], [] => True
  | i, env, o :: os, ws :: wss => (ws.map (·.1) = keys.getD i [] ∧ match zt js i with
      | some b => StepG P l n m all env (σs b) (σs (b + 1)) o ws
      | none => ∀ a, a ≤ js.length → agc A js i a = true → StepG P l n m all env (σs a) (σs a) o ws) ∧ aln P l n m all A keys js σs (i + 1) (ws ++ env) os wss
  | _, _, _, _ => False
theorem aen {b : Nat} {env : Env} {ws : Ws} {r : List Ws} {s : Nat → Bool} : yn b env (ws :: r) s = yn (b + 1) (bif s b then ws ++ env else env) r s := rfl
def acf : Env → List Ws → Env
  | env, [] => env
  | env, ws :: r => acf (ws ++ env) r
theorem afn : ∀ (wss : List Ws) (b : Nat) (env : Env) (s : Nat → Bool), (∀ i, i < wss.length → s (b + i) = true) → yn b env wss s = acf env wss
  | [], _, _, _, _ => rfl
  | ws :: r, b, env, s, h => by
    have h0 := h 0 (by simp)
    rw [Nat.add_zero] at h0
    rw [aen, h0]
    exact afn r (b + 1) _ s fun i hi => by rw [show b + 1 + i = b + (i + 1) by omega]; exact h (i + 1) (by simpa using hi)
theorem ah1 {all : Array Oper} {A : List Nat} {keys : List (List Nat)} {js : List Nat} {σs : Nat → Sto} : ∀ (ops : List Oper) (wss : List Ws) (b : Nat) (env : Env), aln P l n m all A keys js σs b env ops wss → wss.length = ops.length ∧ ∀ (i : Nat) o, ops[i]? = some o → ∃ ws, wss[i]? = some ws ∧
    (ws.map (·.1) = keys.getD (b + i) [] ∧ match zt js (b + i) with
      | some c => StepG P l n m all (acf env (wss.take i)) (σs c) (σs (c + 1)) o ws
      | none => ∀ a, a ≤ js.length → agc A js (b + i) a = true → StepG P l n m all (acf env (wss.take i)) (σs a) (σs a) o ws)
  | [], [], _, _, _ => ⟨rfl, fun i o h => by simp at h⟩
  | o :: os, ws :: wss, b, env, h => by
    obtain ⟨h1, h2⟩ := h
    obtain ⟨k1, k2⟩ := ah1 os wss (b + 1) _ h2
    refine ⟨by simp [k1], fun i o' hi => ?_⟩
    cases i with
    | zero => simp at hi; subst hi; exact ⟨ws, rfl, h1⟩
    | succ i =>
      simp at hi
      obtain ⟨ws', e1, e2⟩ := k2 i o' hi
      rw [show b + 1 + i = b + (i + 1) by omega] at e2
      exact ⟨ws', by simpa using e1, by simpa only [List.take_succ_cons, acf] using e2⟩
  | [], _ :: _, _, _, h => h.elim
  | _ :: _, [], _, _, h => h.elim
theorem ai0 {js : List Nat} {i b : Nat} (h : zt js i = some b) : b < js.length ∧ js.getD b 0 = i := by
  have h1 := List.mem_of_find?_eq_some h
  have h2 := List.find?_some h
  exact ⟨List.mem_range.1 h1, Nat.eq_of_beq_eq_true h2⟩
theorem aix {js : List Nat} {i : Nat} (h : zt js i = none) : i ∉ js := by
  intro hm
  obtain ⟨b, hb, e⟩ := List.getElem_of_mem hm
  have := List.find?_eq_none.1 h b (List.mem_range.2 hb)
  refine this ?_
  rw [List.getD_eq_getElem?_getD, List.getElem?_eq_getElem hb]
  simp [e]
theorem aol {js : List Nat} {s : Nat → Bool} (h : ∀ b c, c < b → b < js.length → s (js.getD b 0) = true → s (js.getD c 0) = true) : ∀ b, b < js.length → (s (js.getD b 0) = true ↔ b < stg js s) := by
  induction js with
  | nil => intro b hb; simp at hb
  | cons x r ih =>
    have ih := ih fun b c hcb hb hs => by
      have := h (b + 1) (c + 1) (by omega) (by simpa using hb) (by simpa using hs)
      simpa using this
    intro b hb
    have hx : ∀ c, c < r.length → s (r.getD c 0) = true → s x = true := fun c hc hs => by
      have := h (c + 1) 0 (by omega) (by simpa using hc) (by simpa using hs)
      simpa using this
    have hst : stg (x :: r) s = (if s x = true then 1 else 0) + stg r s := by
      simp only [stg, List.filter_cons]
      split <;> simp; omega
    cases b with
    | zero =>
      simp only [List.getD_cons_zero]
      rw [hst]
      by_cases e : s x = true
      · simp only [e, if_true, true_iff]; omega
      · simp only [e, if_false, false_iff]
        have : stg r s = 0 := by
          simp only [stg, List.length_eq_zero_iff, List.filter_eq_nil_iff]
          intro y hy hs
          obtain ⟨c, hc, e'⟩ := List.getElem_of_mem hy
          exact e (hx c hc (by rw [List.getD_eq_getElem?_getD, List.getElem?_eq_getElem hc]; simpa [e'] using hs))
        rw [this]; simp
    | succ b =>
      simp only [List.getD_cons_succ]
      simp only [List.length_cons] at hb
      rw [ih b (by omega), hst]
      by_cases e : s x = true
      · rw [if_pos e]; omega
      · rw [if_neg e]
        have : stg r s = 0 := by
          simp only [stg, List.length_eq_zero_iff, List.filter_eq_nil_iff]
          intro y hy hs
          obtain ⟨c, hc, e'⟩ := List.getElem_of_mem hy
          exact e (hx c hc (by rw [List.getD_eq_getElem?_getD, List.getElem?_eq_getElem hc]; simpa [e'] using hs))
        omega
theorem aj8 (js : List Nat) (s : Nat → Bool) : stg js s ≤ js.length := List.length_filter_le _ _
theorem aow {js : List Nat} {s s' : Nat → Bool} (h : ∀ x ∈ js, s' x = s x) : stg js s' = stg js s := by
  unfold stg; rw [List.filter_congr h]
theorem arc {ops : List Oper} {k : Nat} {keys : List (List Nat)} {js : List Nat} {σs : Nat → Sto} {wss : List Ws} {env : Env} (hok : okG ops k keys js = true) (ht : xu ops k = true) (hst : aln P l n m ops.toArray (zm ops) keys js σs 0 env (ops.take k) wss) {Q' : Exit → Act → World → Prop} {F : Fr} {G : Gh} {w : World}
    (hQ : ∀ a w' G', Sim n m F G' (acf env wss) (σs js.length) a w' → Evol m F G w G' w' → wpListIn (Wd l) 0 P ops.toArray Q' (ops.drop k) a w') : ∀ (fuel : Nat) (listed : Array Bool) (a : Act) (w' : World) (G' : Gh) (env' : Env), listed.size = ops.length → ((List.range ops.length).filter fun i => !listed.getD i true).length ≤ fuel →
      Sim n m F G' env' (σs (stg js fun i => listed.getD i true)) a w' → Evol m F G w G' w' → (∀ i, i < ops.length → listed.getD i true = true → i < k) →
      (∀ t, look env' t = look (yn 0 env wss fun i => listed.getD i true) t) → Closed ops listed → wpAnyIn (Wd l) 0 P .any ops.toArray Q' fuel listed a w' := by
  obtain ⟨hpl, hget⟩ := ah1 (ops.take k) wss 0 env hst
  have hkl : k ≤ ops.length := by simp only [xu, Bool.and_eq_true] at ht; exact nlb ht.1
  have hpl2 : wss.length = k := by rw [hpl, List.length_take]; omega
  have htk : ∀ {i : Nat} {o : Oper}, i < k → ops[i]? = some o → (ops.take k)[i]? = some o := fun {i o} hi ho => by rw [List.getElem?_take, if_pos hi]; exact ho
  have hex : ∀ {i : Nat}, i < k → ∃ o, ops[i]? = some o := fun {i} hi => ⟨ops[i], by simp⟩
  have hjs : ∀ b, b < js.length → js.getD b 0 < k ∧ ∀ c, c < b → anc (zm ops) (js.getD b 0) (js.getD c 0) = true ∧ js.getD b 0 ≠ js.getD c 0 := by
    intro b hb
    have h := hok
    simp only [okG, Bool.and_eq_true] at h
    have h1 := ut h.2 hb
    simp only [Bool.and_eq_true] at h1
    refine ⟨nlb h1.1, fun c hc => ?_⟩
    have h2 := ut h1.2 hc
    simp only [Bool.and_eq_true, Bool.not_eq_true'] at h2
    exact ⟨h2.1, fun e => by rw [e] at h2; simp at h2⟩
  have hkey : ∀ i ws, wss[i]? = some ws → ws.map (·.1) = keys.getD i [] := by
    intro i ws hi
    have hik : i < k := by rw [← hpl2]; exact (List.getElem?_eq_some_iff.1 hi).1
    obtain ⟨o, ho⟩ := hex hik
    obtain ⟨ws', e1, e2, _⟩ := hget i o (htk hik ho)
    rw [hi] at e1; cases e1
    rw [Nat.zero_add] at e2; exact e2
  have hpre : ∀ listed : Array Bool, Closed ops listed → ∀ b, b < js.length → (listed.getD (js.getD b 0) true = true ↔ b < stg js fun i => listed.getD i true) := fun listed hc =>
    aol (s := fun i => listed.getD i true) fun b c hcb hb hs => by
      obtain ⟨q1, q2⟩ := hjs b hb
      obtain ⟨o, ho⟩ := hex q1
      exact ad3 ho (q2 c hcb).1 hc hs
  have hfin : ∀ (fuel : Nat) (listed : Array Bool) (a : Act) (w' : World) (G' : Gh) (env' : Env), listed.size = ops.length → ((List.range ops.length).filter fun i => !listed.getD i true).length ≤ fuel → (∀ i, i < k → listed.getD i true = true) → (∀ i, i < ops.length → listed.getD i true = true → i < k) → Sim n m F G' env' (σs (stg js fun i => listed.getD i true)) a w' → Evol m F G w G' w' →
      (∀ t, look env' t = look (yn 0 env wss fun i => listed.getD i true) t) → Closed ops listed → wpAnyIn (Wd l) 0 P .any ops.toArray Q' fuel listed a w' := by
    intro fuel listed a w' G' env' hsz hfu hall hsub hs hv hlk hc
    have hstg : stg js (fun i => listed.getD i true) = js.length := by
      unfold stg
      rw [List.filter_eq_self.2 fun x hx => ?_]
      obtain ⟨b, hb, e⟩ := List.getElem_of_mem hx
      have := (hjs b hb).1
      rw [List.getD_eq_getElem?_getD, List.getElem?_eq_getElem hb] at this
      exact hall x (by simpa [e] using this)
    rw [hstg] at hs
    refine ag4 ht fuel k listed a w' (Nat.le_refl _) hkl ?_ hsz hc (fun j hj => ⟨hsub j hj, hall j⟩) (hQ a w' G' (hs.weaken fun t => .inr (.inl ?_)) hv)
    · have hsub2 : ((List.range ops.length).filter fun i => Nat.ble k i).length ≤ ((List.range ops.length).filter fun i => !listed.getD i true).length := by
        have e : ((List.range ops.length).filter fun i => Nat.ble k i) = ((List.range ops.length).filter fun i => !listed.getD i true).filter fun i => Nat.ble k i := by
          rw [List.filter_filter]
          refine List.filter_congr fun x hx => ?_
          have hx := List.mem_range.1 hx
          cases hb : Nat.ble k x with
          | false => simp
          | true =>
            have := nlb hb
            have : listed.getD x true = false := by
              cases hh : listed.getD x true with
              | false => rfl
              | true => have := hsub x hx hh; omega
            simp [this]
        rw [e]; exact List.length_filter_le _ _
      have hcount : ∀ n, k ≤ n → ((List.range n).filter fun i => Nat.ble k i).length = n - k := by
        intro n
        induction n with
        | zero => intro _; simp
        | succ n ih =>
          intro hn
          rw [List.range_succ, List.filter_append, List.length_append]
          by_cases e : k ≤ n
          · have hb : Nat.ble k n = true := by simp only [Nat.ble_eq]; exact e
            rw [ih e, List.filter_cons_of_pos hb]; simp; omega
          · have hk : k = n + 1 := by omega
            have hz : ((List.range n).filter fun i => Nat.ble k i) = [] := by
              rw [List.filter_eq_nil_iff]; intro x hx hb; have := List.mem_range.1 hx; have := nlb hb; omega
            have hz2 : ([n].filter fun i => Nat.ble k i) = [] := by
              rw [List.filter_eq_nil_iff]; intro x hx hb; have := List.mem_singleton.1 hx; have := nlb hb; omega
            rw [hz, hz2]; simp; omega
      have := hcount ops.length hkl
      omega
    · rw [hlk t, afn wss 0 env _ fun i hi => by rw [Nat.zero_add]; exact hall i (by omega)]
  intro fuel
  induction fuel with
  | zero =>
    intro listed a w' G' env' hsz hfu hs hv h0 hlk hc
    refine hfin 0 listed a w' G' env' hsz hfu (fun i hi => ?_) h0 hs hv hlk hc
    cases hl : listed.getD i true with
    | true => rfl
    | false =>
      have : i ∈ (List.range ops.length).filter fun i => !listed.getD i true := List.mem_filter.2 ⟨List.mem_range.2 (by omega), by simp [hl]⟩
      rw [List.length_eq_zero_iff.1 (Nat.le_zero.1 hfu)] at this; cases this
  | succ fuel ih =>
    intro listed a w' G' env' hsz hfu hs hv h0 hlk hc
    by_cases hall : ∀ i, i < k → listed.getD i true = true
    · exact hfin (fuel + 1) listed a w' G' env' hsz hfu hall h0 hs hv hlk hc
    · have hready : ∃ i, i ∈ Region.ready .any ops.toArray listed := by
        have : ∃ i, i < k ∧ listed.getD i true = false := by
          refine Classical.byContradiction fun hn => hall fun i hi => ?_
          cases hb : listed.getD i true with
          | true => rfl
          | false => exact absurd ⟨i, hi, hb⟩ hn
        obtain ⟨i, ⟨hik, hif⟩, hmin⟩ := adn this
        have hio : ops[i]? = some ops[i] := by simp
        have hf := afv hok hik hio
        refine ⟨i, mem_ready.2 ⟨_, hio, hif, fun e he hb => ?_⟩⟩
        have hon := hf.back e he hb
        rw [aap hsz (by omega)]
        cases hb' : listed.getD e.on true with
        | true => rfl
        | false => have := hmin e.on ⟨by omega, hb'⟩; omega
      refine ⟨fun hr => (by obtain ⟨i, hi⟩ := hready; rw [hr] at hi; cases hi), fun i hi => ?_⟩
      obtain ⟨o, ho, hl, hrdy⟩ := mem_ready.1 hi
      have hil := (List.getElem?_eq_some_iff.1 ho).1
      have hik : i < k := by
        rcases Nat.lt_or_ge i k with h | h
        · exact h
        · exfalso
          refine hall fun j hj => ?_
          have hT := ht
          simp only [xu, Bool.and_eq_true] at hT
          have := ut hT.2 hil
          simp only [Bool.or_eq_true, Bool.and_eq_true, ho] at this
          rcases this with h' | ⟨c1, c2⟩
          · have := nlb h'; omega
          · exact ab8 hc hsz 30 i j o ho (ut c1 (by omega)) fun e he hb => by
              have h1 := hrdy e he hb
              have := afe (List.all_eq_true.1 c2 e he) hb
              rw [aap hsz (by omega)] at h1; exact h1
      obtain ⟨ws, e3, e5, e4⟩ := hget i o (htk hik ho)
      have hf := afv hok hik ho
      have hrdy' : ∀ e ∈ o.after.toList, Region.binds .any e = true → listed.getD e.on true = true := fun e he hb => by
        have h1 := hrdy e he hb
        rw [aap hsz (by have := hf.back e he hb; omega)] at h1; exact h1
      have hbef : ∀ j, anc (zm ops) i j = true → listed.getD j true = true := fun j hj => af6 ho hj hc hrdy'
      have haft : ∀ j, j < k → anc (zm ops) j i = true → listed.getD j true = false := fun j hj ha => by
        cases hlj : listed.getD j true with
        | false => rfl
        | true =>
          obtain ⟨oj, hoj⟩ := hex hj
          have := ad3 hoj ha hc hlj
          rw [hl] at this; cases this
      have hsame : ∀ t ∈ readsOf ops.toArray o, look env' t = look (acf env (wss.take i)) t := by
        intro t ht'
        rw [hlk t, ← afn (wss.take i) 0 env (fun j => Nat.ble (j + 1) i) fun j hj => by
          rw [List.length_take] at hj
          rw [Nat.zero_add]; simp only [Nat.ble_eq]; omega]
        have hcut : look (yn 0 env wss fun j => Nat.ble (j + 1) i) t = look (yn 0 env (wss.take i) fun j => Nat.ble (j + 1) i) t := by
          have key : ∀ (l1 l2 : List Ws) (b : Nat) (env : Env), l1.length = i - b → look (yn b env (l1 ++ l2) fun j => Nat.ble (j + 1) i) t = look (yn b env l1 fun j => Nat.ble (j + 1) i) t := by
            intro l1
            induction l1 with
            | nil =>
              intro l2 b env hlen
              rw [List.nil_append]
              exact ads l2 b env fun q ws' _ _ => by
                simp only [List.length_nil] at hlen
                cases hx : Nat.ble (b + q + 1) i with
                | false => rfl
                | true => have := nlb hx; omega
            | cons x r ihl =>
              intro l2 b env hlen
              rw [List.cons_append, aen, aen]
              exact ihl l2 (b + 1) _ (by simp at hlen; omega)
          have := key (wss.take i) (wss.drop i) 0 env (by rw [List.length_take]; omega)
          rwa [List.take_append_drop] at this
        rw [← hcut]
        refine ae4 wss 0 env env (fun j wj hj htj => ?_) rfl
        rw [Nat.zero_add]
        have hjk : j < k := by rw [← hpl2]; exact (List.getElem?_eq_some_iff.1 hj).1
        rw [hkey j wj hj] at htj
        by_cases hji : j = i
        · subst hji
          show listed.getD j true = Nat.ble (j + 1) j
          rw [hl]
          symm
          cases hx : Nat.ble (j + 1) j with
          | false => rfl
          | true => have := nlb hx; omega
        · rcases hf.reads t ht' j hjk hji htj with ⟨q1, q2⟩ | ⟨q1, q2⟩
          · rw [hbef j q2]; symm; simp only [Nat.ble_eq]; omega
          · show listed.getD j true = Nat.ble (j + 1) i
            rw [haft j hjk q2]
            symm
            cases hx : Nat.ble (j + 1) i with
            | false => rfl
            | true => have := nlb hx; omega
      have hset : ∀ j, (listed.setIfInBounds i true).getD j true = (listed.getD j true || Nat.beq j i) := fun j => by
        rw [yt (by omega)]
        by_cases e : j = i
        · subst e; simp
        · have : Nat.beq j i = false := by
            cases hx : Nat.beq j i with
            | false => rfl
            | true => exact absurd (Nat.eq_of_beq_eq_true hx) e
          rw [if_neg e, this, Bool.or_false]
      have hnext : ∀ a2 w2 G2, Sim n m F G2 (ws ++ env') (σs (stg js fun j => (listed.setIfInBounds i true).getD j true)) a2 w2 → Evol m F G' w' G2 w2 → wpAnyIn (Wd l) 0 P .any ops.toArray Q' fuel (listed.setIfInBounds i true) a2 w2 := fun a2 w2 G2 hs2 hv2 => by
        refine ih (listed.setIfInBounds i true) a2 w2 G2 _ (by simpa using hsz) ?_ hs2 (hv.trans hv2) (fun j hj hl' => ?_) (fun t => ?_) (hc.set (by omega) ho hrdy')
        · have hsub : ((List.range ops.length).filter fun j => !(listed.setIfInBounds i true).getD j true) = (((List.range ops.length).filter fun j => !listed.getD j true).filter fun j => !(listed.setIfInBounds i true).getD j true) := by
            rw [List.filter_filter]
            congr 1
            funext j
            rw [yt (by omega)]
            by_cases e : j = i
            · simp [e]
            · simp [e]
          rw [hsub]
          have := List.length_filter_lt_length_iff_exists (p := fun j => !(listed.setIfInBounds i true).getD j true) (l := (List.range ops.length).filter fun j => !listed.getD j true)
          have h5 := this.2 ⟨i, List.mem_filter.2 ⟨List.mem_range.2 hil, by simp [hl]⟩, by rw [yt (by omega)]; simp⟩
          omega
        · rw [yt (by omega)] at hl'
          split at hl'
          · omega
          · exact h0 j hj hl'
        · have e6 : (fun j => (listed.setIfInBounds i true).getD j true) = fun j => listed.getD j true || Nat.beq j i := funext hset
          rw [e6, ← aja (q := i) (wq := ws) (s := fun j => listed.getD j true) hl wss 0 env (Nat.zero_le _) (by simpa using e3) fun j wj hj ht1 ht2 hlt => ?_]
          · exact adr fun _ => hlk t
          · rw [Nat.zero_add] at hlt ⊢
            have hjk : j < k := by rw [← hpl2]; exact (List.getElem?_eq_some_iff.1 hj).1
            rw [hkey j wj hj] at ht2
            rw [hkey i ws e3] at ht1
            rcases hf.writes t ht1 j hjk (by omega) ht2 with ⟨q1, q2⟩ | ⟨q1, _⟩
            · exact haft j hjk q2
            · omega
      rw [Nat.zero_add] at e4
      cases hT : zt js i with
      | some b =>
        rw [hT] at e4
        obtain ⟨hb, hbi⟩ := ai0 hT
        have hst1 : stg js (fun j => listed.getD j true) = b := by
          have p1 := hpre listed hc
          have q1 : ¬ b < stg js (fun j => listed.getD j true) := by
            rw [← p1 b hb, hbi, hl]; simp
          have q2 : ∀ c, c < b → c < stg js (fun j => listed.getD j true) := fun c hcb => by
            rw [← p1 c (by omega)]
            have := ((hjs b hb).2 c hcb).1
            rw [hbi] at this
            exact hbef _ this
          rcases Nat.eq_zero_or_pos b with h | h
          · omega
          · have := q2 (b - 1) (by omega); omega
        have hc2 := hc.set (by omega : i < listed.size) ho hrdy'
        have hst2 : stg js (fun j => (listed.setIfInBounds i true).getD j true) = b + 1 := by
          have p1 := hpre _ hc2
          have q1 : b < stg js (fun j => (listed.setIfInBounds i true).getD j true) := by
            rw [← p1 b hb, hbi, yt (by omega), if_pos rfl]
          have q2 : ¬ b + 1 < stg js (fun j => (listed.setIfInBounds i true).getD j true) := by
            intro hlt
            have hle := aj8 js fun j => (listed.setIfInBounds i true).getD j true
            have h4 := (p1 (b + 1) (by omega)).2 hlt
            have h5 := (hjs (b + 1) (by omega)).2 b (by omega)
            rw [yt (by omega), if_neg (fun e => h5.2 (by rw [e, hbi]))] at h4
            have := haft _ (hjs (b + 1) (by omega)).1 (by rw [hbi] at h5; exact h5.1)
            rw [h4] at this; cases this
          omega
        rw [hst1] at hs
        rw [hst2] at hnext
        exact e4.go env' hsame F G' a w' hs i _ Q' (by simpa using ho) fun a2 w2 G2 hs2 hv2 => hnext a2 w2 G2 hs2 hv2
      | none =>
        rw [hT] at e4
        have hnj := aix hT
        have hst1 : stg js (fun j => (listed.setIfInBounds i true).getD j true) = stg js fun j => listed.getD j true :=
          aow fun x hx => by
            rw [yt (by omega), if_neg fun e => hnj (by rw [← e]; exact hx)]
        rw [hst1] at hnext
        refine (e4 _ (aj8 _ _) ?_).go env' hsame F G' a w' hs i _ Q' (by simpa using ho) fun a2 w2 G2 hs2 hv2 => hnext a2 w2 G2 hs2 hv2
        rw [agc, List.all_eq_true]
        intro b hb
        have hb := List.mem_range.1 hb
        have p1 := hpre listed hc b hb
        rw [Bool.and_eq_true]
        refine ⟨?_, ?_⟩
        · cases hA : anc (zm ops) i (js.getD b 0) with
          | false => rfl
          | true =>
            have := p1.1 (hbef _ hA)
            simp only [Bool.not_true, Bool.false_or, Nat.ble_eq]; omega
        · cases hA : anc (zm ops) (js.getD b 0) i with
          | false => rfl
          | true =>
            have h6 := haft _ (hjs b hb).1 hA
            have : ¬ b < stg js fun j => listed.getD j true := by rw [← p1, h6]; simp
            simp only [Bool.not_true, Bool.false_or, Nat.ble_eq]; omega
structure DrawH (P : Program) (l : Option Nat) (n m : Nat) (all : Array Oper) (A : List Nat) (keys : List (List Nat)) (js : List Nat) (σs : Nat → Sto) (i : Nat) (env : Env) (ops : List Oper) (K : Env → Prop) : Prop where
  go : ∃ wss, aln P l n m all A keys js σs i env ops wss ∧ K (acf env wss)
theorem ak2 {id k : Nat} {keys : List (List Nat)} {js : List Nat} {σs : Nat → Sto} {ops : List Oper} {env : Env} {σ : Sto} (hσ : σs 0 = σ) (hm : P.follows .mixedOrders = true) (hok : okG ops k keys js = true) (ht : xu ops k = true)
    (h : DrawH P l n m ops.toArray (zm ops) keys js σs 0 env (ops.take k) fun env' => SatOps P l n m ops.toArray (ops.drop k) env' (σs js.length) Q) : Sat P l n m (.region id ops.toArray true) env σ Q := by
  subst hσ
  obtain ⟨wss, h1, h2⟩ := h
  refine ⟨fun F G a w hs => ?_⟩
  refine wpIn_region_any hm ?_
  have hs' := hs.drew
  have hlen := (ah1 _ _ _ _ h1).1
  have hkl : k ≤ ops.length := by simp only [xu, Bool.and_eq_true] at ht; exact nlb ht.1
  have hc : ∀ (i : Nat), i < ops.length → (Array.replicate ops.toArray.size false).getD i true = false := fun i hi => by simp [Array.getD_eq_getD_getElem?, hi]
  have hj0 : stg js (fun i => (Array.replicate ops.toArray.size false).getD i true) = 0 := by
    simp only [stg, List.length_eq_zero_iff, List.filter_eq_nil_iff]
    intro x hx
    obtain ⟨b, hb, e⟩ := List.getElem_of_mem hx
    have h := hok
    simp only [okG, Bool.and_eq_true] at h
    have h3 := ut h.2 hb
    simp only [Bool.and_eq_true] at h3
    have h4 := nlb h3.1
    rw [List.getD_eq_getElem?_getD, List.getElem?_eq_getElem hb] at h4
    simp only [Option.getD_some, e] at h4
    rw [hc x (by omega)]; simp
  refine arc hok ht h1 (F := F) (G := G) (w := w) (fun a' w' G' hs2 hv2 => abe hv2 _ _ _ (h2.go F G' a' w' hs2)) _ _ a w.drew G env (by simp) (by have := List.length_filter_le (fun i => !(Array.replicate ops.length false).getD i true) (List.range ops.length); simpa only [List.length_range, List.size_toArray] using this) (by rw [hj0]; exact hs') (Evol.drew hs) (fun i hi hl => ?_) (fun t => ?_) (fun i o hi hl => ?_)
  · rw [hc i hi] at hl; cases hl
  · refine (ads wss 0 env fun i ws hi _ => ?_).symm
    rw [Nat.zero_add]
    have := (List.getElem?_eq_some_iff.1 hi).1
    rw [hlen, List.length_take] at this
    exact hc i (by omega)
  · rw [hc i (List.getElem?_eq_some_iff.1 hi).1] at hl; cases hl
end
def abj (L : List Sto) (a : Nat) : Sto := L.getD a []
def atr (js : List Nat) (i : Nat) : Nat := (js.filter fun j => Nat.ble (j + 1) i).length
def axx (e : Exit) (env : Env) (σ : Sto) (ws : Ws) (base : Env) (σ1 : Sto) : Prop := e = .normal ∧ env = ws ++ base ∧ σ = σ1
theorem eg3 {e : Exit} {env : Env} {σ : Sto} {ws : Ws} {base : Env} {σ1 : Sto} (h1 : e = .normal) (h2 : env = ws ++ base) (h3 : σ = σ1) : axx e env σ ws base σ1 := ⟨h1, h2, h3⟩
structure StepO (P : Program) (l : Option Nat) (n m : Nat) (all : Array Oper) (env : Env) (σ0 σ1 : Sto) (o : Oper) (ws : Ws) : Prop where
  g : StepG P l n m all env σ0 σ1 o ws
def Oth (A : List Nat) (js : List Nat) (i c : Nat) (p : Sto → Prop) : Nat → List Sto → Prop
  | _, [] => True
  | a, σ :: r => (a = c ∨ agc A js i a = false ∨ p σ) ∧ Oth A js i c p (a + 1) r
structure DrawJ (P : Program) (l : Option Nat) (n m : Nat) (all : Array Oper) (A : List Nat) (keys : List (List Nat)) (js : List Nat) (σs : Nat → Sto) (i : Nat) (env : Env) (ops : List Oper) (K : Env → Prop) : Prop where
  go : DrawH P l n m all A keys js σs i env ops K
section
variable {P : Program} {l : Option Nat} {n m : Nat} {all : Array Oper} {A : List Nat} {keys : List (List Nat)} {js : List Nat} {L : List Sto} {i : Nat} {env : Env} {o : Oper} {os : List Oper} {K : Env → Prop}
theorem StepC.toG {σ : Sto} {d : Nat} {op : Op} {ty : TypeId} {pos : String} {after : Array Edge} {gd : Option (Nat × Bool)} {p : PV} (h : StepC P l n m all env σ ⟨some d, op, ty, pos, after, gd⟩ p) : StepG P l n m all env σ σ ⟨some d, op, ty, pos, after, gd⟩ [(d, p)] :=
  ⟨fun env0 hag F G a w hs i K Q' hi hK => h.go env0 hag F G a w hs i K Q' hi hK⟩
theorem sw {σ : Sto} {d : Nat} {op : Op} {ty : TypeId} {pos : String} {after : Array Edge} {p : PV} (hl : LookAt P n m (yj env (readsOf all ⟨some d, op, ty, pos, after, none⟩)) σ ⟨some d, op, ty, pos, after, none⟩ p) (hd : Nat.ble (d + 1) n = true) (hnd : agl op = false) :
    StepO P l n m all env σ σ ⟨some d, op, ty, pos, after, none⟩ [(d, p)] := ⟨(agb ⟨d, rfl, ltn hd⟩ (fun c e => by rw [show op = .defer c from e] at hnd; cases hnd) (.free rfl hl)).toG⟩
theorem vv {σ0 σ1 : Sto} {ws : Ws} (h : ∀ env0 : Env, SatOps P l n m all [o] (yj env (readsOf all o) ++ env0) σ0 fun e env' σ' => axx e env' σ' ws (yj env (readsOf all o) ++ env0) σ1) : StepO P l n m all env σ0 σ1 o ws := ⟨atg h⟩
theorem ze {σs : Nat → Sto} {ops : List Oper} (h : DrawH P l n m all A keys js σs i env ops K) : DrawH P l n m all A keys js σs i env ops K := h
theorem zg {σs : Nat → Sto} {ops : List Oper} (h : DrawJ P l n m all A keys js σs i env ops K) : DrawJ P l n m all A keys js σs i env ops K := h
theorem wz {p : Sto → Prop} {c a : Nat} (h : Oth A js i c p a L) : Oth A js i c p a L := h
theorem uy {p : Sto → Prop} {c a : Nat} : Oth A js i c p a [] := trivial
theorem ui {p : Sto → Prop} {c a : Nat} {σ : Sto} {r : List Sto} (h : Nat.beq a c = true) (hr : Oth A js i c p (a + 1) r) : Oth A js i c p a (σ :: r) := ⟨.inl (Nat.eq_of_beq_eq_true h), hr⟩
theorem w9 {p : Sto → Prop} {c a : Nat} {σ : Sto} {r : List Sto} (h : agc A js i a = false) (hr : Oth A js i c p (a + 1) r) : Oth A js i c p a (σ :: r) := ⟨.inr (.inl h), hr⟩
theorem uz {p : Sto → Prop} {c a : Nat} {σ : Sto} {r : List Sto} (h : p σ) (hr : Oth A js i c p (a + 1) r) : Oth A js i c p a (σ :: r) := ⟨.inr (.inr h), hr⟩
theorem Oth.get {p : Sto → Prop} {c : Nat} : ∀ (L : List Sto) (a : Nat), Oth A js i c p a L → ∀ b, b < L.length → agc A js i (a + b) = true → a + b ≠ c → p (L.getD b [])
  | [], a, _, b, hb, _, _ => by simp at hb
  | σ :: r, a, h, b, hb, hs, hc => by
    cases b with
    | zero =>
      rcases h.1 with h1 | h1 | h1
      · exact absurd h1 hc
      · rw [Nat.add_zero] at hs; rw [hs] at h1; cases h1
      · exact h1
    | succ b =>
      have := Oth.get r (a + 1) h.2 b (by simpa using hb) (by rw [show a + 1 + b = a + (b + 1) by omega]; exact hs) (by omega)
      simpa using this
theorem xe {σs : Nat → Sto} (h : K env) : DrawH P l n m all A keys js σs i env [] K := ⟨[], trivial, h⟩
theorem aod {ws : Ws} {c : Nat} {σ : Sto} (hT : zt js i = none) (hk : ws.map (·.1) = keys.getD i []) (hc : atr js i = c) (hσ : abj L c = σ) (hlen : Nat.beq L.length (js.length + 1) = true)
    (h : StepO P l n m all env σ σ o ws) (hn : DrawH P l n m all A keys js (abj L) (i + 1) (ws ++ env) os K) (ho : Oth A js i c (fun σ => StepO P l n m all env σ σ o ws) 0 L) : DrawJ P l n m all A keys js (abj L) i env (o :: os) K := by
  obtain ⟨wss, h2, h3⟩ := hn
  have hlen := Nat.eq_of_beq_eq_true hlen
  refine ⟨⟨ws :: wss, ⟨⟨hk, ?_⟩, h2⟩, h3⟩⟩
  rw [hT]
  intro a ha hs
  by_cases e : a = c
  · subst e; rw [hσ]; exact h.g
  · have := Oth.get L 0 ho a (by omega) (by rw [Nat.zero_add]; exact hs) (by omega)
    exact this.g
theorem aos {ws : Ws} {b : Nat} {σ σ1 : Sto} (hT : zt js i = some b) (hk : ws.map (·.1) = keys.getD i []) (h0 : abj L b = σ) (h1 : abj L (b + 1) = σ1)
    (h : StepO P l n m all env σ σ1 o ws) (hn : DrawH P l n m all A keys js (abj L) (i + 1) (ws ++ env) os K) : DrawJ P l n m all A keys js (abj L) i env (o :: os) K := by
  obtain ⟨wss, h2, h3⟩ := hn
  refine ⟨⟨ws :: wss, ⟨⟨hk, ?_⟩, h2⟩, h3⟩⟩
  rw [hT]
  subst h0; subst h1
  exact h.g
theorem qz {σ σ1 : Sto} {r : List Sto} (hT : zt js i = some 0) (hk : ([] : Ws).map (·.1) = keys.getD i [])
    (h : StepO P l n m all env σ σ1 o []) (hn : DrawH P l n m all A keys js (abj (σ :: σ1 :: r)) (i + 1) ([] ++ env) os K) : DrawJ P l n m all A keys js (abj (σ :: σ1 :: r)) i env (o :: os) K := aos hT hk rfl rfl h hn
theorem xm {s0 : Sto} {σ σ1 : Sto} {r : List Sto} (hT : zt js i = some 1) (hk : ([] : Ws).map (·.1) = keys.getD i [])
    (h : StepO P l n m all env σ σ1 o []) (hn : DrawH P l n m all A keys js (abj (s0 :: σ :: σ1 :: r)) (i + 1) ([] ++ env) os K) : DrawJ P l n m all A keys js (abj (s0 :: σ :: σ1 :: r)) i env (o :: os) K := aos hT hk rfl rfl h hn
theorem rf {d : Nat} {p : PV} {σ : Sto} {r : List Sto} (hc : atr js i = 0) (hT : zt js i = none) (hk : ([(d, p)] : Ws).map (·.1) = keys.getD i []) (hlen : Nat.beq (σ :: r).length (js.length + 1) = true)
    (h : StepO P l n m all env σ σ o [(d, p)]) (hn : DrawH P l n m all A keys js (abj (σ :: r)) (i + 1) ([(d, p)] ++ env) os K) (ho : Oth A js i 0 (fun σ => StepO P l n m all env σ σ o [(d, p)]) 0 (σ :: r)) : DrawJ P l n m all A keys js (abj (σ :: r)) i env (o :: os) K := aod hT hk hc rfl hlen h hn ho
theorem xk {s0 : Sto} {d : Nat} {p : PV} {σ : Sto} {r : List Sto} (hc : atr js i = 1) (hT : zt js i = none) (hk : ([(d, p)] : Ws).map (·.1) = keys.getD i []) (hlen : Nat.beq (s0 :: σ :: r).length (js.length + 1) = true)
    (h : StepO P l n m all env σ σ o [(d, p)]) (hn : DrawH P l n m all A keys js (abj (s0 :: σ :: r)) (i + 1) ([(d, p)] ++ env) os K) (ho : Oth A js i 1 (fun σ => StepO P l n m all env σ σ o [(d, p)]) 0 (s0 :: σ :: r)) : DrawJ P l n m all A keys js (abj (s0 :: σ :: r)) i env (o :: os) K := aod hT hk hc rfl hlen h hn ho
variable {σs : Nat → Sto} {dst : Option Nat} {op : Op} {ty : TypeId} {pos : String} {after : Array Edge}
theorem aal (h : DrawJ P l n m all A keys js σs i env (⟨dst, op, ty, pos, after, none⟩ :: os) K) : DrawH P l n m all A keys js σs i env (⟨dst, op, ty, pos, after, none⟩ :: os) K := h.go
theorem rq {Q : Post} {σ σ1 : Sto} {id k j : Nat} {ops : List Oper} {env : Env} (hm : P.follows .mixedOrders = true) (hok : okG ops k keys [j] = true) (ht : xu ops k = true)
    (h : DrawH P l n m ops.toArray (zm ops) keys [j] (abj [σ, σ1]) 0 env (ops.take k) fun env' => SatOps P l n m ops.toArray (ops.drop k) env' σ1 Q) : Sat P l n m (.region id ops.toArray true) env σ Q := ak2 (σs := abj [σ, σ1]) rfl hm hok ht h
theorem aj9 {Q : Post} {σ σ1 σ2 : Sto} {id k j j2 : Nat} {ops : List Oper} {env : Env} (hm : P.follows .mixedOrders = true) (hok : okG ops k keys [j, j2] = true) (ht : xu ops k = true)
    (h : DrawH P l n m ops.toArray (zm ops) keys [j, j2] (abj [σ, σ1, σ2]) 0 env (ops.take k) fun env' => SatOps P l n m ops.toArray (ops.drop k) env' σ2 Q) : Sat P l n m (.region id ops.toArray true) env σ Q := ak2 (σs := abj [σ, σ1, σ2]) rfl hm hok ht h
end
end Go.Proofs.Ytbpjaiemlkcccaa.Pv
end
