/- Rules for the walk. -/
import Derived.Test.YtflgoabdgibphaaPvX
namespace Go.Proofs.Ytflgoabdgibphaa.Pv
open Go
set_option linter.unusedVariables false
set_option linter.unusedSimpArgs false

section
variable {P : Program} {l : Option Nat} {tt : TT} {n m : Nat} {all : Array Oper} {rest : List Oper} {env : Env} {σ : Sto} {Q : Post} {d : Nat} {ty : TypeId} {pos : String} {after : Array Edge}

theorem sat_cond_t {t : Nat} {x y : Code} {b : Bool} (hb : look env t = .bool b) (h : b = true) (hx : Sat P l n m x env σ Q) : Sat P l n m (.cond (.tmp t) x y) env σ Q :=
  sat_cond hb (fun _ => hx) (fun e => by rw [h] at e; cases e)
theorem sat_cond_f {t : Nat} {x y : Code} {b : Bool} (hb : look env t = .bool b) (h : b = false) (hy : Sat P l n m y env σ Q) : Sat P l n m (.cond (.tmp t) x y) env σ Q :=
  sat_cond hb (fun e => by rw [h] at e; cases e) (fun _ => hy)

theorem ops_gsplit {dst : Option Nat} {op : Op} {j t : Nat} {want b : Bool} (hj : (all[j]?).bind (·.dst) = some t) (hb : look env t = .bool b)
    (h1 : b = true → SatOps P l n m all (⟨dst, op, ty, pos, after, some (j, want)⟩ :: rest) env σ Q) (h0 : b = false → SatOps P l n m all (⟨dst, op, ty, pos, after, some (j, want)⟩ :: rest) env σ Q) :
    SatOps P l n m all (⟨dst, op, ty, pos, after, some (j, want)⟩ :: rest) env σ Q := ops_split hb h1 h0

/-- A shorter environment. -/
def WkL : Env → Env → Prop
  | [], _ => True
  | (t, p) :: r, env => Wk p (look env t) ∧ WkL r env

theorem WkL.at : ∀ {e env : Env}, WkL e env → ∀ t, Wk (look e t) (look env t)
  | [], _, _, t => .inl rfl
  | (u, p) :: r, env, h, t => by
    rw [look_cons]
    split
    · rename_i e; subst e; exact h.1
    · exact WkL.at h.2 t

theorem sat_env {c : Code} (e : Env) (he : WkL e env) (h : Sat P l n m c e σ Q) : Sat P l n m c env σ Q := sat_weaken e he.at h
theorem ops_env {ops : List Oper} (e : Env) (he : WkL e env) (h : SatOps P l n m all ops e σ Q) : SatOps P l n m all ops env σ Q := ops_weaken e he.at h

/-- A loop, by an invariant over some data. -/
theorem sat_loopW {α : Type} {c : Code} (E : α → Env) (S : α → Sto) (I : α → Prop) (μ : α → Nat) (x0 : α) (h0 : I x0) (hw : WkL (E x0) env) (hS : S x0 = σ)
    (hr : ∀ x, I x → Sat P l n m c (E x) (S x) (andThen (fun env' σ' => ∃ x', I x' ∧ μ x' < μ x ∧ WkL (E x') env' ∧ S x' = σ') Q)) : Sat P l n m (.loop c) env σ Q := by
  subst hS
  refine sat_env (E x0) hw (sat_loop (fun k e s => ∃ x, I x ∧ μ x = k ∧ (∀ t, Wk (look (E x) t) (look e t)) ∧ S x = s) (μ x0) ⟨x0, h0, rfl, fun t => Wk.same _, rfl⟩ ?_)
  rintro k e s ⟨x, hx, rfl, he, rfl⟩
  refine sat_weaken (E x) he ((hr x hx).mono fun e' env' σ' q => ?_)
  cases e' with
  | normal =>
    obtain ⟨x', h1, h2, h3, h4⟩ := q.go
    exact ⟨⟨μ x', h2, x', h1, rfl, h3.at, h4⟩⟩
  | _ => exact ⟨q.go⟩

/-- A piece of code up to what it leaves. -/
theorem sat_cut {x y : Code} (N : Env → Sto → Prop) (h : Sat P l n m x env σ (andThen N Q)) (hy : ∀ e s, N e s → Sat P l n m y e s Q) : Sat P l n m (.seq x y) env σ Q :=
  sat_seq (h.mono fun e env' σ' q => by
    cases e with
    | normal => exact ⟨hy _ _ q.go⟩
    | _ => exact ⟨q.go⟩)

theorem op_call0 {fo : Operand} {args : Array Operand} {ats : Array TypeId} {f : FuncId} {ps : List PV} {R : PV → Sto → Prop} (hcal : Callable P f) (hfo : fo = .func f) (hps : passL tt env args.toList ats.toList = ps) (hlen : Nat.ble args.size ats.size = true)
    (htup : ps.all (fun p => !p.isTup) = true) (hc : SatCall P f ps σ R) (hd : Nat.ble (d + 1) n = true) (h : ∀ r σ', R r σ' → SatOps P l n m all rest ((d, r) :: env) σ' Q) :
    SatOps P l n m all (⟨some d, .call ⟨.value fo, args, ats⟩, ty, pos, after, none⟩ :: rest) env σ Q := by
  subst hfo
  exact op_call (tt := tt) (as := []) (bs := []) hcal rfl (by simp [hps]) (Nat.le_of_ble_eq_true hlen) htup hc (ltn hd) h

end

section
variable {tt : TT} {fn : Func} {m : Nat} {R : PV → Sto → Prop} {e : Exit} {env : Env} {σ τ ex : Sto}

/-- The end of a function without results. -/
theorem fn_end0 (he : e = .normal ∨ e = .ret) (hres : fn.results.toList = []) (hR : R (.tup []) σ) : fnPost tt fn m R e env σ := by
  refine ⟨he, [], σ, [], ?_, ?_, (List.append_nil _).symm, .inl rfl, trivial, hR⟩
  · rw [hres]; trivial
  · intro x hx; cases hx

end
end Go.Proofs.Ytflgoabdgibphaa.Pv
