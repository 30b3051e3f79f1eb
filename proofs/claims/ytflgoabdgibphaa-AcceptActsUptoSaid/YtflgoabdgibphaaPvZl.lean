/- Rows of which the capacity is known, in boxes: they are cut, copied into, grown; a box that turns no more is read as a row of values. -/
import Derived.Test.YtflgoabdgibphaaPvZk
import Derived.Laws.Externs
namespace Go.Proofs.Ytflgoabdgibphaa.Pv
open Go
set_option linter.unusedVariables false
set_option linter.unusedSimpArgs false

section
variable {n m : Nat} {F : Nat → Prop} {G : Gh} {env : Env} {σ : Sto} {a : Act} {w : World}

/-- A box may be forgotten. -/
theorem Sim.gone (h : Sim n m F G env σ a w) (k : Nat) : Sim n m F G env (σ.set k .gone) a w := by
  have hget : ∀ (i : Nat) e, (σ.set k .gone)[i]? = some e → (i = k ∧ e = .gone) ∨ σ[i]? = some e := by
    intro i e hi
    rw [List.getElem?_set] at hi
    split at hi
    · rename_i e'; subst e'
      split at hi
      · cases hi; exact .inl ⟨rfl, rfl⟩
      · cases hi
    · exact .inr hi
  have key : ∀ l b, ownAt G env (σ.set k .gone) a.tmps w l = some b → ownAt G env σ a.tmps w l = some b := by
    intro l b hl
    cases l with
    | slot t j => exact hl
    | cell i j =>
      simp only [ownAt] at hl ⊢
      cases hi : (σ.set k .gone)[i]? with
      | none => rw [hi] at hl; cases hl
      | some e =>
        rw [hi] at hl
        rcases hget i e hi with ⟨_, rfl⟩ | h'
        · cases hl
        · rw [h']; exact hl
  refine ⟨h.size, h.rep, fun t => by rw [List.length_set]; exact h.envlt t, fun i e hi => ?_, fun i e hi => ?_, h.kfree, fun i e hi hc => ?_, fun l1 l2 b g1 g2 => h.uniq l1 l2 b (key _ _ g1) (key _ _ g2), fun l b hl => h.fr l b (key _ _ hl), h.frlt, h.marks, h.markF, by rw [List.length_set]; exact h.floor⟩
  · rcases hget i e hi with ⟨_, rfl⟩ | h'
    · trivial
    · exact h.sto i e h'
  · rw [List.length_set]
    rcases hget i e hi with ⟨_, rfl⟩ | h'
    · trivial
    · exact h.stolt i e h'
  · rcases hget i e hi with ⟨_, rfl⟩ | h'
    · rcases hc with ⟨c, e⟩ | ⟨x, y, z, u, e⟩ <;> cases e
    · exact h.inj i e h' hc
end

/-- An environment, once box i turns no more (its first cells were cs). -/
def FrzL (i : Nat) (cs : List PV) : Env → Env → Prop
  | [], _ => True
  | (t, p) :: r, env => Frz i cs p (look env t) ∧ FrzL i cs r env
theorem FrzL.at {i : Nat} {cs : List PV} : ∀ {e env : Env}, FrzL i cs e env → ∀ t, Frz i cs (look e t) (look env t)
  | [], _, _, t => .inl rfl
  | (u, p) :: r, env, h, t => by
    rw [look_cons]
    split
    · rename_i e; subst e; exact h.1
    · exact FrzL.at h.2 t
def FrzC (i : Nat) (cs : List PV) : List PV → List PV → Prop
  | [], [] => True
  | p' :: r', p :: r => Frz i cs p' p ∧ FrzC i cs r' r
  | _, _ => False
theorem FrzC.get {i : Nat} {cs : List PV} : ∀ {ds' ds : List PV}, FrzC i cs ds' ds → ds'.length = ds.length ∧ ∀ (k : Nat) c', ds'[k]? = some c' → ∃ c, ds[k]? = some c ∧ Frz i cs c' c
  | [], [], _ => ⟨rfl, fun k c' h => by simp at h⟩
  | p' :: r', p :: r, h => by
    obtain ⟨h1, h2⟩ := FrzC.get h.2
    refine ⟨by simp [h1], fun k c' hc => ?_⟩
    cases k with
    | zero => simp at hc; subst hc; exact ⟨p, rfl, h.1⟩
    | succ k => simp at hc; simpa using h2 k c' hc
  | [], _ :: _, h => h.elim
  | _ :: _, [], h => h.elim
/-- The same of a store's end, entry for entry. -/
def FrzS (i : Nat) (cs : List PV) : Sto → Sto → Prop
  | [], [] => True
  | e' :: r', e :: r => (e' = e ∨ ∃ ds ds', e = .cells ds ∧ e' = .cells ds' ∧ FrzC i cs ds' ds) ∧ FrzS i cs r' r
  | _, _ => False
theorem FrzS.get {i : Nat} {cs : List PV} : ∀ {s' s : Sto}, FrzS i cs s' s → s'.length = s.length ∧ ∀ (k : Nat) e', s'[k]? = some e' → ∃ e, s[k]? = some e ∧ FrzE i cs e' e
  | [], [], _ => ⟨rfl, fun k c' h => by simp at h⟩
  | p' :: r', p :: r, h => by
    obtain ⟨h1, h2⟩ := FrzS.get h.2
    refine ⟨by simp [h1], fun k c' hc => ?_⟩
    cases k with
    | zero =>
      simp at hc; subst hc
      refine ⟨p, rfl, ?_⟩
      rcases h.1 with e | ⟨ds, ds', e1, e2, h3⟩
      · exact .inl e
      · exact .inr ⟨ds, ds', e1, e2, h3.get⟩
    | succ k => simp at hc; simpa using h2 k c' hc
  | [], _ :: _, h => h.elim
  | _ :: _, [], h => h.elim

theorem FrzS.refl {i : Nat} {cs : List PV} : ∀ s : Sto, FrzS i cs s s
  | [] => trivial
  | e :: r => ⟨.inl rfl, FrzS.refl r⟩
theorem FrzS.app {i : Nat} {cs : List PV} {s' s : Sto} (h : FrzS i cs s' s) : ∀ τ : Sto, FrzS i cs (τ ++ s') (τ ++ s)
  | [] => h
  | e :: r => ⟨.inl rfl, FrzS.app h r⟩
theorem frz_same {i : Nat} {cs : List PV} {p : PV} : Frz i cs p p := .inr (.inl rfl)
theorem frz_row {i sz cap : Nat} {es : List PV} (hsz : ∀ e ∈ es, e.cells.length = sz) : Frz i (flat es) (.sl .sh sz es) (.xsl i 0 sz es.length cap) :=
  .inr (.inr ⟨0, sz, es.length, cap, es, .inr rfl, rfl, rfl, hsz, by rw [flat_length hsz]; omega, fun j c h => by rw [Nat.zero_add]; exact h⟩)

section
variable {P : Program} {l : Option Nat} {tt : TT} {n m : Nat} {all : Array Oper} {rest : List Oper} {env : Env} {σ : Sto} {Q : Post} {d : Nat} {dd : Option Nat} {ty : TypeId} {pos : String} {after : Array Edge} {g : Option (Nat × Bool)}

theorem sat_gone {c : Code} (k : Nat) (h : Sat P l n m c env (σ.set k .gone) Q) : Sat P l n m c env σ Q := ⟨fun F G a w hs => h.go F G a w (hs.gone k)⟩

/-- A box turns no more. -/
theorem sat_freeze {c : Code} {i : Nat} {cs rs : List PV} (E' : Env) (σ' : Sto) (hi : σ[i]? = some (.cells (cs ++ rs))) (hpl : ∀ c ∈ cs, c.pl = true) (he : FrzL i cs E' env) (hσ : FrzS i cs σ' (σ.set i .gone))
    (h : Sat P l n m c E' σ' Q) : Sat P l n m c env σ Q := by
  refine ⟨fun F G a w hs => ?_⟩
  obtain ⟨h1, h2⟩ := hσ.get
  have hlt := (List.getElem?_eq_some_iff.1 hi).1
  obtain ⟨k1, k2⟩ := hs.freeze (env' := E') (σ' := σ') hi hpl he.at (by rw [h1, List.length_set]) (by
      have h3 : i < σ'.length := by rw [h1, List.length_set]; exact hlt
      obtain ⟨e, e1, e2⟩ := h2 i σ'[i] (by simp [h3])
      rw [List.getElem?_set, if_pos rfl, if_pos hlt] at e1
      cases e1
      rw [List.getElem?_eq_getElem h3]
      rcases e2 with e2 | ⟨ds, _, e2, _⟩
      · rw [e2]
      · cases e2) (fun j e' hj hj' => by
      obtain ⟨e, e1, e2⟩ := h2 j e' hj'
      rw [List.getElem?_set, if_neg (Ne.symm hj)] at e1
      exact ⟨e, e1, e2⟩)
  exact wpIn_mono (h.go F _ a w k1) fun _ _ _ q => q.evol k2

theorem ops_gone {os : List Oper} (k : Nat) (h : SatOps P l n m all os env (σ.set k .gone) Q) : SatOps P l n m all os env σ Q := ⟨fun F G a w hs => h.go F G a w (hs.gone k)⟩
theorem ops_freeze {os : List Oper} {i : Nat} {cs rs : List PV} (E' : Env) (σ' : Sto) (hi : σ[i]? = some (.cells (cs ++ rs))) (hpl : ∀ c ∈ cs, c.pl = true) (he : FrzL i cs E' env) (hσ : FrzS i cs σ' (σ.set i .gone))
    (h : SatOps P l n m all os E' σ' Q) : SatOps P l n m all os env σ Q := by
  refine ⟨fun F G a w hs => ?_⟩
  obtain ⟨h1, h2⟩ := hσ.get
  have hlt := (List.getElem?_eq_some_iff.1 hi).1
  obtain ⟨k1, k2⟩ := hs.freeze (env' := E') (σ' := σ') hi hpl he.at (by rw [h1, List.length_set]) (by
      have h3 : i < σ'.length := by rw [h1, List.length_set]; exact hlt
      obtain ⟨e, e1, e2⟩ := h2 i σ'[i] (by simp [h3])
      rw [List.getElem?_set, if_pos rfl, if_pos hlt] at e1
      cases e1
      rw [List.getElem?_eq_getElem h3]
      rcases e2 with e2 | ⟨ds, _, e2, _⟩
      · rw [e2]
      · cases e2) (fun j e' hj hj' => by
      obtain ⟨e, e1, e2⟩ := h2 j e' hj'
      rw [List.getElem?_set, if_neg (Ne.symm hj)] at e1
      exact ⟨e, e1, e2⟩)
  exact list_evol k2 _ _ _ (h.go F _ a w k1)

/-- How many elements there is room for. -/
theorem lk_cap (ht : TabOK P tt) {t : TypeId} {x : Operand} {e : TI} {i off sz len cap : Nat} (he : eti tt t = some e) (hx : opv tt env t x = .xsl i off sz len cap) :
    LookAt P n m env σ ⟨dd, .call ⟨.builtin .cap, #[x], #[t]⟩, ty, pos, after, g⟩ (.int .i64 cap) := by
  refine ⟨fun F G a w hs => ?_⟩
  have hxo := opv_ok hs tt t x
  rw [hx] at hxo
  obtain ⟨ad, ev, _⟩ := (hxo.toS rfl).xslv
  obtain ⟨eT, hu, hT⟩ := eti_ok ht he
  exact ⟨.int .i64 cap, by simp [execOp, resolve, invoke, builtin, Builtin.cap_, underlying, hu, ev, goInt], .inr (.inl (.pl (.int _ _))), trivial⟩

theorem bounds_eq {F : Nat → Prop} {G : Gh} {a : Act} {w : World} (hs : Sim n m F G env σ a w) {isS : Bool} {len cap : Nat} {lo hi mx : Option Operand} {l h mm : Int} (hm1 : mx.isSome = true → hi.isSome = true) (hl : bndP tt env lo 0 = some l) (hh : bndP tt env hi len = some h) (hm : bndP tt env mx cap = some mm)
    (h0 : 0 ≤ l) (h1 : l ≤ h) (h2 : h ≤ mm) (h3 : mm ≤ cap) : (Instr.sliceBounds isS len cap (lo.map a.eval) (hi.map a.eval) (mx.map a.eval)).run P w = .ok (l.toNat, h.toNat, mm.toNat) w := by
  cases mx with
  | none =>
    simp only [bndP, Option.some.injEq] at hm
    have := bounds_run (P := P) (w := w) (isS := isS) hs hl hh h0 h1 (cap := cap) (by omega)
    rw [show mm.toNat = cap by omega]; exact this
  | some z =>
    cases hi with
    | none => simp at hm1
    | some y => exact bounds3_run hs hl (by simpa [bndP] using hh) (by simpa [bndP] using hm) h0 h1 h2 (by omega)

/-- A slice of such a row. -/
theorem lk_sliceX (ht : TabOK P tt) {t : TypeId} {x : Operand} {lo hi mx : Option Operand} {e : TI} {i off sz len cap : Nat} {l h mm : Int} (he : eti tt t = some e) (hx : opv tt env t x = .xsl i off sz len cap) (hsz : Nat.beq e.size sz = true)
    (hm1 : (mx.isSome && hi.isNone) = false) (hl : bndP tt env lo 0 = some l) (hh : bndP tt env hi len = some h) (hm : bndP tt env mx cap = some mm) (hc : 0 ≤ l ∧ l ≤ h ∧ h ≤ mm ∧ mm ≤ cap) :
    LookAt P n m env σ ⟨dd, .slice t x lo hi mx, ty, pos, after, g⟩ (.xsl i (off + l.toNat * sz) sz (h.toNat - l.toNat) (mm.toNat - l.toNat)) := by
  refine ⟨fun F G a w hs => ?_⟩
  have hsz := Nat.eq_of_beq_eq_true hsz
  have hxo := opv_ok hs tt t x
  have hxl := opv_lt hs tt t x
  rw [hx] at hxo hxl
  obtain ⟨ad, ex, c1, c3⟩ := (hxo.toS rfl).xslv
  obtain ⟨eT, hu, hT⟩ := eti_ok ht he
  obtain ⟨h1, h2, h3, h4⟩ := hc
  have hb := bounds_eq (P := P) hs (isS := true) (by intro h; cases mx <;> cases hi <;> simp_all) hl hh hm h1 h2 h3 h4
  have hz := hT.rsize w
  refine ⟨.slice (if mm.toNat = l.toNat then ad else ad.map (·.add (l.toNat * sz))) (h.toNat - l.toNat) (mm.toNat - l.toNat), ?_, .inr (.inl (.xsl _ _ _ _ _ _ (by omega) ?_)), ?_⟩
  · simp [execOp, ex, Instr.sliceAt, Instr.slice, underlying, hu, hb, hz, hsz]
  · by_cases h0 : mm.toNat - l.toNat = 0
    · exact .inl h0
    · obtain ⟨c3, c4⟩ := c3.resolve_left (by omega)
      exact .inr ⟨by rw [if_neg (by omega), c3]; simp [add_eq], c4⟩
  · simp only [PV.lt] at hxl ⊢; omega

end
end Go.Proofs.Ytflgoabdgibphaa.Pv
