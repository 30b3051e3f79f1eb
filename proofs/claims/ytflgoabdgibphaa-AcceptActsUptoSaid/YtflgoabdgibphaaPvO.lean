/- Guards, choices, ends: the rules in the form in which they are used. -/
import Derived.Test.YtflgoabdgibphaaPvN
namespace Go.Proofs.Ytflgoabdgibphaa.Pv
open Go
set_option linter.unusedVariables false
set_option linter.unusedSimpArgs false

section
variable {P : Program} {l : Option Nat} {tt : TT} {n m : Nat} {all : Array Oper} {rest : List Oper} {env : Env} {σ : Sto} {Q : Post} {d : Nat} {ty : TypeId} {pos : String} {after : Array Edge}

theorem yielded_of {F : Nat → Prop} {G : Gh} {a : Act} {w : World} (hs : Sim n m F G env σ a w) {j t : Nat} {b : Bool} (hj : (all[j]?).bind (·.dst) = some t) (hb : look env t = .bool b) : yielded all a.tmps j = some b := by
  have h := hs.rep t
  rw [hb] at h
  have e := (h.toS rfl).bool
  unfold yielded
  rw [hj]
  simp only [Option.bind_some]
  by_cases ht : t < a.tmps.size
  · have : a.tmps.getD t undef = a.tmps[t] := by simp [ht]
    rw [this] at e
    simp [ht, e]
  · have : a.tmps.getD t undef = undef := by simp [Array.getElem?_eq_none (Nat.le_of_not_lt ht)]
    rw [this] at e; cases e

theorem strip_guard {o : Oper} {a : Act} {w : World} {next : Act → World → Prop} {Q' : Exit → Act → World → Prop} {g : Option (Nat × Bool)} (h : Oper.wpIn (Wd l) 0 P { o with guard := none } a w next Q') : Oper.wpIn (Wd l) 0 P { o with guard := g } a w next Q' := by
  obtain ⟨h1, h2⟩ := h
  refine ⟨fun _ _ => trivial, ?_⟩
  have e1 : ∀ ρ, execOp ρ { o with guard := g } = execOp ρ { o with guard := none } := fun ρ => rfl
  have e2 : Oper.semAt (Wd l).round a.eval { o with guard := g } = Oper.semAt (Wd l).round a.eval { o with guard := none } := rfl
  rw [e2]
  exact h2

/-- An operation behind a guard: carried out. -/
theorem ops_guard_t {dst : Option Nat} {op : Op} {j t : Nat} {want b : Bool} (hj : (all[j]?).bind (·.dst) = some t) (hb : look env t = .bool b) (hw : b = want)
    (h : SatOps P l n m all (⟨dst, op, ty, pos, after, none⟩ :: rest) env σ Q) : SatOps P l n m all (⟨dst, op, ty, pos, after, some (j, want)⟩ :: rest) env σ Q := by
  refine ⟨fun F G a w hs => ?_⟩
  have h1 := h.go F G a w hs
  simp only [wpListIn] at h1 ⊢
  rw [if_pos (by simp [Region.wanted])] at h1
  rw [if_pos (by simp [Region.wanted, yielded_of hs hj hb, hw])]
  exact strip_guard (o := ⟨dst, op, ty, pos, after, none⟩) h1

/-- An operation behind a guard: passed over. -/
theorem ops_guard_f {op : Op} {j t : Nat} {want b : Bool} (hj : (all[j]?).bind (·.dst) = some t) (hb : look env t = .bool b) (hw : b = !want) (hd : d < n)
    (h : SatOps P l n m all rest ((d, .dead) :: env) σ Q) : SatOps P l n m all (⟨some d, op, ty, pos, after, some (j, want)⟩ :: rest) env σ Q := by
  refine ⟨fun F G a w hs => ?_⟩
  simp only [wpListIn]
  rw [if_neg (by simp [Region.wanted, yielded_of hs hj hb, hw])]
  exact ⟨fun _ _ => trivial, h.go F G _ w (hs.setDead undef hd)⟩

/-- The two ways of a bool. -/
theorem ops_split {ops : List Oper} {t : Nat} {b : Bool} (hb : look env t = .bool b) (h1 : b = true → SatOps P l n m all ops env σ Q) (h0 : b = false → SatOps P l n m all ops env σ Q) : SatOps P l n m all ops env σ Q := by
  cases b
  · exact h0 rfl
  · exact h1 rfl

theorem op_pick {c x y : Operand} {b : Bool} {p : PV} (hc : opv tt env ty c = .bool b) (hp : (b = true ∧ opv tt env ty x = p) ∨ (b = false ∧ opv tt env ty y = p)) (hd : d < n)
    (h : SatOps P l n m all rest ((d, p) :: env) σ Q) : SatOps P l n m all (⟨some d, .pick c x y, ty, pos, after, none⟩ :: rest) env σ Q := by
  refine op_gen rfl (by simp) fun F G a w hs => ?_
  have hco := opv_ok hs tt ty c
  rw [hc] at hco
  have e := (hco.toS rfl).bool
  rcases hp with ⟨rfl, rfl⟩ | ⟨rfl, rfl⟩
  · exact ⟨a.eval x, w, G, _, σ, .inl (by simp [execOp, e, asBool]), hs.setN hd (opv_ok hs tt ty x) (opv_lt hs tt ty x), .refl _ _ _ _, h⟩
  · exact ⟨a.eval y, w, G, _, σ, .inl (by simp [execOp, e, asBool]), hs.setN hd (opv_ok hs tt ty y) (opv_lt hs tt ty y), .refl _ _ _ _, h⟩

/-- An element of a row of like elements. -/
theorem op_indexMap {α : Type} [Inhabited α] (f : α → PV) (ht : TabOK P tt) {t tI : TypeId} {x i : Operand} {k : IntKind} {z : Int} {sz : Nat} {xs : List α} {e : TI} (he : eti tt t = some e) (hx : opv tt env t x = .sl .sh sz (xs.map f))
    (hi : opv tt env tI i = .int k z) (hsz : sz = e.size) (h0 : 0 ≤ z) (h1 : z < xs.length) {cs : List PV} (hcs : (f (xs.getD z.toNat default)).cells = cs) (hd : d < n)
    (h : SatOps P l n m all rest ((d, .cref cs) :: env) σ Q) : SatOps P l n m all (⟨some d, .indexAddr t x i, ty, pos, after, none⟩ :: rest) env σ Q := by
  refine op_look hd (by simp) (fun F G a w hs => look_indexAddr (tI := tI) ht hs) (c := sz = e.size ∧ 0 ≤ z ∧ z < ((xs.map f).length : Int)) (p := .cref cs) ?_ ⟨hsz, h0, by simpa using h1⟩ h
  rw [hx, hi]
  simp only [indexAddrP, he]
  have hlt : z.toNat < xs.length := by omega
  have : (xs.map f).getD z.toNat .dead = f (xs.getD z.toNat default) := by simp [List.getD, hlt]
  rw [this, hcs]

end

section
variable {tt : TT} {fn : Func} {m : Nat} {R : PV → Sto → Prop} {e : Exit} {env : Env} {σ τ ex : Sto}

/-- The end of a function with one result, in a slot. -/
theorem fn_end1 {t : Nat} (p q : PV) (he : e = .normal ∨ e = .ret) (hres : fn.results.toList = [.tmp t]) (hp : look env t = p) (hw : Wk q p) (hq : q.isTup = false) (hσ : σ = τ ++ ex) (hm : m ≤ τ.length) (hlt : q.lt τ.length) (hst : StoOK τ)
    (hR : R q τ) : fnPost tt fn m R e env σ := by
  refine ⟨he, [q], τ, ex, ?_, ?_, hσ, .inr ⟨hm, hst⟩, ⟨hlt, trivial⟩, hR⟩
  · rw [hres]; exact ⟨by rw [hp]; exact hw, trivial⟩
  · intro x hx; simp at hx; subst hx; exact hq

/-- .. with two. -/
theorem fn_end2 {t u : Nat} (p q p' q' : PV) (he : e = .normal ∨ e = .ret) (hres : fn.results.toList = [.tmp t, .tmp u]) (hp : look env t = p) (hp' : look env u = p') (hw : Wk q p) (hw' : Wk q' p') (hq : q.isTup = false) (hq' : q'.isTup = false) (hσ : σ = τ ++ ex)
    (hm : m ≤ τ.length) (hlt : q.lt τ.length) (hlt' : q'.lt τ.length) (hst : StoOK τ) (hR : R (.tup [q, q']) τ) : fnPost tt fn m R e env σ := by
  refine ⟨he, [q, q'], τ, ex, ?_, ?_, hσ, .inr ⟨hm, hst⟩, ⟨hlt, hlt', trivial⟩, hR⟩
  · rw [hres]; exact ⟨by rw [hp]; exact hw, by rw [hp']; exact hw', trivial⟩
  · intro x hx; simp at hx; rcases hx with rfl | rfl <;> assumption

/-- The end of a function with one result, in a slot; all boxes stay. -/
theorem fn_endA {t : Nat} (p q : PV) (he : e = .normal ∨ e = .ret) (hres : fn.results.toList = [.tmp t]) (hp : look env t = p) (hw : Wk q p) (hq : q.isTup = false) (hlt : q.lt σ.length) (hR : R q σ) : fnPost tt fn m R e env σ := by
  refine ⟨he, [q], σ, [], ?_, ?_, (List.append_nil _).symm, .inl rfl, ⟨hlt, trivial⟩, hR⟩
  · rw [hres]; exact ⟨by rw [hp]; exact hw, trivial⟩
  · intro x hx; simp at hx; subst hx; exact hq

theorem Wk.same (p : PV) : Wk p p := .inr (.inl rfl)
theorem Wk.sh {sz : Nat} {es : List PV} : Wk (.sl .sh sz es) (.sl .ow sz es) := .inr (.inr ⟨_, _, rfl, rfl⟩)

end
end Go.Proofs.Ytflgoabdgibphaa.Pv
