
/- A function that defers one that recovers. -/
import Derived.Test.YtbpjaiemlkcccaaPvZw
import Derived.RecoverIn
namespace Go.Proofs.Ytbpjaiemlkcccaa.Pv
open Go
set_option linter.unusedVariables false
set_option linter.unusedSimpArgs false

section
variable {P : Program} {tt : TT} {l : Option Nat} {n m : Nat} {env : Env} {σ τ ex : Sto} {Q : Post} {all : Array Oper} {rest : List Oper} {dd : Option Nat} {d : Nat} {ty : TypeId} {pos : String} {after : Array Edge} {g : Option (Nat × Bool)}

theorem RepS.rawv {G : Gh} {w : World} {v u : Value} {t : TypeId} (h : RepS G w v (.raw t u)) : v = .iface t u := by cases h with | pl h => cases h; rfl

theorem ahc {T : TypeId} {x : Operand} {fs : Array Field} (hu : P.underlying T = some (.struct fs)) (hx : opv tt env T x = .agg []) : LookAt P n m env σ ⟨dd, .makeInterface T x, ty, pos, after, g⟩ (.raw T (.agg #[])) := ⟨fun F G a w hs => by
  have h1 := o7 hs tt T x
  rw [hx] at h1
  obtain ⟨vs, e, hl, _⟩ := (h1.toS rfl).aggv
  have hv : vs = #[] := Array.eq_empty_of_size_eq_zero (by simpa using hl)
  subst hv
  exact ⟨.iface T (.agg #[]), by simp [execOp, Instr.makeInterface, underlying, hu, e], .inr (.inl (.pl (.raw _ _))), trivial⟩⟩

theorem aqa {T xT : TypeId} {x : Operand} {fs : Array Field} (hu : P.underlying T = some (.struct fs)) (hx : opv tt env xT x = .raw T (.agg #[])) : LookAt P n m env σ ⟨dd, .typeAssert x xT T true, ty, pos, after, g⟩ (.tup [.agg [], .bool true]) := ⟨fun F G a w hs => by
  have h1 := o7 hs tt xT x
  rw [hx] at h1
  have e := (h1.toS rfl).rawv
  refine ⟨.tuple #[.agg #[], .bool true], by simp [execOp, Instr.typeAssert, underlying, hu, e], .inr (.inr ⟨#[.agg #[], .bool true], [.agg [], .bool true], rfl, rfl, rfl, fun j v c h1 h2 => ?_⟩), by simp [PV.lt, o6]⟩
  match j with
  | 0 => simp at h1 h2; subst h1; subst h2; exact .inr (.pl (.agg #[] [] rfl fun j v c h _ => by simp at h))
  | 1 => simp at h1 h2; subst h1; subst h2; exact .inr (.pl (.bool _))
  | j + 2 => simp at h1⟩

theorem ape {xT yT : TypeId} {x : Operand} {ms : Array (String × TypeId)} {T : TypeId} {u : Value} (hu : P.underlying xT = some (.interface ms)) (hx : opv tt env xT x = .raw T u) : LookAt P n m env σ ⟨dd, .binOp .neq xT x (.const .nilIface) yT, ty, pos, after, g⟩ (.bool true) := ⟨fun F G a w hs => by
  have h1 := o7 hs tt xT x
  rw [hx] at h1
  have ex := (h1.toS rfl).rawv
  have hg : (eqGuard .neq xT x (.const .nilIface) (a.eval x) .nilIface).run P w = .ok () w := aew (by simp [ex]) (by simp [ex])
  rw [ex] at hg
  have hc : a.eval (.const .nilIface) = .nilIface := rfl
  have h : ∀ d : Nat, (Op.equalIn (d + 1) xT (.iface T u) .nilIface).run P w = .ok false w := fun d => by simp [Op.equalIn, underlying, hu]
  exact ⟨.bool true, by simp only [execOp, hc, ex, Sem.run_bind, hg, Result.andThen_ok]; simp [binOp, Op.equal, Op.maxDepth, h 9999], .inr (.inl (.pl (.bool _))), trivial⟩⟩

theorem ap4 {xT yT : TypeId} {x : Operand} {ms : Array (String × TypeId)} (hu : P.underlying xT = some (.interface ms)) (hx : opv tt env xT x = .nilif) : LookAt P n m env σ ⟨dd, .binOp .neq xT x (.const .nilIface) yT, ty, pos, after, g⟩ (.bool false) := ⟨fun F G a w hs => by
  have h1 := o7 hs tt xT x
  rw [hx] at h1
  have ex := (h1.toS rfl).nilif
  have hg : (eqGuard .neq xT x (.const .nilIface) (a.eval x) .nilIface).run P w = .ok () w := by rw [ex]; simp [eqGuard]
  rw [ex] at hg
  have hc : a.eval (.const .nilIface) = .nilIface := rfl
  have h : ∀ d : Nat, (Op.equalIn (d + 1) xT .nilIface .nilIface).run P w = .ok true w := fun d => by simp [Op.equalIn, underlying, hu]
  exact ⟨.bool false, by simp only [execOp, hc, ex, Sem.run_bind, hg, Result.andThen_ok]; simp [binOp, Op.equal, Op.maxDepth, h 9999], .inr (.inl (.pl (.bool _))), trivial⟩⟩

theorem ah2 {dst : Option Nat} {x : Operand} {T : TypeId} {u : Value} (hx : opv tt env ty x = .raw T u) (h : Q (.panic [{ v := .iface T u, recovered := false }]) env σ) : SatOps P l n m all (⟨dst, .panic x, ty, pos, after, none⟩ :: rest) env σ Q := by
  refine ⟨fun F G a w hs => ?_⟩
  have h1 := o7 hs tt ty x
  rw [hx] at h1
  have e := (h1.toS rfl).rawv
  have hrun : (execOp a.eval ⟨dst, .panic x, ty, pos, after, none⟩).run P w = .halt (.panic (.iface T u)) w := by simp [execOp, Instr.panic, e, goPanic]
  refine abk rfl ⟨fun _ _ => trivial, ?_⟩
  rw [show (Wd l).round = l from rfl, Oper.semAt_eq l _ _ (by simp), hrun]
  exact ⟨G, env, σ, h, hs, .refl _ _ _ _⟩
end

def akc : Op → Bool
  | .move _ | .assign _ | .alloc _ | .box _ _ | .build _ _ | .load _ _ | .store _ _ _ | .binOp _ _ _ _ _ | .unOp _ _ _ | .convert _ _ _ | .makeInterface _ _ | .fieldAddr _ _ _ | .field _ _ _ | .typeAssert _ _ _ _ | .extract _ _ => true
  | _ => false

theorem ath {P : Program} {o : Oper} (ho : akc o.op = true) (ρ : Operand → Value) (w : World) : ∀ x w', (execOp ρ o).run P w = .ok x w' → (∃ v, x = .value v) ∨ x = .skip := by
  have key : ∀ (s : Sem Value) x w', (do pure (Next.value (← s)) : Sem Next).run P w = .ok x w' → (∃ v, x = Next.value v) ∨ x = .skip := by
    intro s x w' h
    simp only [Sem.run_bind] at h
    cases hs : s.run P w with
    | ok v w1 => rw [hs] at h; simp at h; exact .inl ⟨v, h.1.symm⟩
    | halt e w1 => rw [hs] at h; cases h
  have key2 : ∀ (s : Sem Unit) x w', (do s; pure Next.skip : Sem Next).run P w = .ok x w' → (∃ v, x = Next.value v) ∨ x = Next.skip := by
    intro s x w' h
    simp only [Sem.run_bind] at h
    cases hs : s.run P w with
    | ok v w1 => rw [hs] at h; simp at h; exact .inr h.1.symm
    | halt e w1 => rw [hs] at h; cases h
  intro x w' h
  obtain ⟨dst, op, ty, pos, after, g⟩ := o
  cases op
  case move y => simp [execOp] at h; exact .inl ⟨_, h.1.symm⟩
  case assign y => simp [execOp] at h; exact .inl ⟨_, h.1.symm⟩
  case store t a y => exact key2 _ x w' h
  all_goals first | (cases ho; done) | exact key _ x w' h

theorem put_defers (a : Act) (d : Option Nat) (v : Value) : (a.put d v).defers = a.defers := by cases d <;> rfl

theorem aip {P : Program} {l : Option Nat} {all : Array Oper} {Q : Exit → Act → World → Prop} {D : List Deferred} : ∀ (ops : List Oper) (a : Act) (w : World), ops.all (fun o => akc o.op) = true → a.defers = D →
    wpListIn (Wd l) 0 P all Q ops a w → wpListIn (Wd l) 0 P all (fun e a' w' => Q e a' w' ∧ a'.defers = D) ops a w
  | [], a, w, _, hD, h => ⟨h, hD⟩
  | o :: ops, a, w, hp, hD, h => by
    simp only [List.all_cons, Bool.and_eq_true] at hp
    have ih := fun a w hD h => aip (P := P) (l := l) (all := all) (Q := Q) (D := D) ops a w hp.2 hD h
    simp only [wpListIn] at h ⊢
    split
    · rename_i hw
      rw [if_pos hw] at h
      refine ⟨h.1, ?_⟩
      have h := h.2
      have hnd : ∀ c, o.op ≠ .defer c := fun c e => by have := hp.1; rw [e] at this; cases this
      rw [show (Wd l).round = l from rfl, Oper.semAt_eq l _ o hnd] at h ⊢
      have hx := ath (P := P) hp.1 a.eval w
      generalize (execOp a.eval o).run P w = rr at h hx
      cases rr with
      | ok x w' =>
        rcases hx x w' rfl with ⟨v, rfl⟩ | rfl
        · exact ih _ _ (by rw [put_defers]; exact hD) h
        · exact ih _ _ (by rw [put_defers]; exact hD) h
      | halt x w' => cases x <;> simp only [Oper.uponIn] at h ⊢ <;> first | exact h | exact ⟨h, hD⟩
    · rename_i hw
      rw [if_neg hw] at h
      exact ⟨h.1, ih _ _ (by rw [put_defers]; exact hD) h.2⟩

structure SatK (P : Program) (l : Option Nat) (n m : Nat) (c : Code) (env : Env) (σ : Sto) (Q : Post) : Prop where
  go : ∀ F G a w, Sim n m F G env σ a w → c.wpIn (Wd l) 0 P (fun e a' w' => abz n m F G w Q e a' w' ∧ a'.defers = a.defers) a w

section
variable {P : Program} {l : Option Nat} {n m : Nat} {env : Env} {σ : Sto} {Q : Post}
theorem acd {id : Nat} {ops : List Oper} (hp : ops.all (fun o => akc o.op) = true) (h : SatOps P l n m ops.toArray ops env σ Q) : SatK P l n m (.region id ops.toArray false) env σ Q :=
  ⟨fun F G a w hs => wpIn_region_lit (aip ops a w hp rfl (h.go F G a w hs))⟩
theorem afh {x y : Code} (h : SatK P l n m x env σ (andThen (fun env' σ' => SatK P l n m y env' σ' Q) Q)) : SatK P l n m (.seq x y) env σ Q := by
  refine ⟨fun F G a w hs => ?_⟩
  refine wpIn_seq (wpIn_mono (h.go F G a w hs) fun e a' w' q => ?_)
  obtain ⟨⟨G', env', σ', hq, hs', hv⟩, hd⟩ := q
  have hq := hq.go
  cases e with
  | normal => exact wpIn_mono (hq.go F G' a' w' hs') fun _ _ _ q => ⟨q.1.evol hv, q.2.trans hd⟩
  | _ => exact ⟨⟨G', env', σ', hq, hs', hv⟩, hd⟩
theorem ah7 {t : Nat} {x y : Code} {b : Bool} (hb : look env t = .bool b) (hx : b = true → SatK P l n m x env σ Q) (hy : b = false → SatK P l n m y env σ Q) : SatK P l n m (.cond (.tmp t) x y) env σ Q := by
  refine ⟨fun F G a w hs => ?_⟩
  have he : a.eval (.tmp t) = .bool b := by
    have h := hs.rep t
    rw [hb] at h
    exact (h.toS rfl).bool
  exact wpIn_cond_split he (fun h => (hx h).go F G a w hs) (fun h => (hy h).go F G a w hs)
theorem ak1 (h : Q .normal env σ) : SatK P l n m .skip env σ Q := ⟨fun F G a w hs => wpIn_skip ⟨⟨G, env, σ, h, hs, .refl _ _ _ _⟩, rfl⟩⟩
end

def ag9 (P : Program) (f : FuncId) (ps : List PV) (σ σ' : Sto) (u u' : FrameMode) : Prop :=
  ∀ F G w (vs : Array Value), vs.size = ps.length → Sim vs.size σ.length F G (xw ps) σ ⟨vs, []⟩ w →
    CallsDIn (Wd none) 0 P f vs u w fun e u'' w' => u'' = u' ∧ ∃ v r G', e = .returned v ∧ Sim 1 σ.length F G' [(0, r)] σ' ⟨#[v], []⟩ w' ∧ Evol σ.length F G w G' w'

theorem an0 {P : Program} {w : World} (ρ : Operand → Value) (d : Option Nat) (ty : TypeId) (pos : String) (after : Array Edge) : (execOp ρ ⟨d, .call ⟨.builtin .recover, #[], #[]⟩, ty, pos, after, none⟩).run P w = .ok .recover w := by
  simp [execOp, resolve, invoke, builtin]

section
variable {Fc : Fence} {n : Nat} {P : Program} {ops : Array Oper} {Q : Exit → Act → List Frame → World → Prop} {rest : List Nat} {a : Act} {cs : List Frame} {w w' : World} {i : Nat} {o : Oper} {v : Value}
theorem asr (hi : ops[i]? = some o) (hF : ∀ f, Fc.fn f) (hw : Region.wanted o (yielded ops a.tmps) = true) (hr : (execOp a.eval o).run P w = .ok .recover w)
    (h : match recoverD cs with | some (v, cs') => wpOpsSIn Fc n P ops Q rest (a.put o.dst v) cs' w | none => wpOpsSIn Fc n P ops Q rest (a.put o.dst .nilIface) cs w) : wpOpsSIn Fc n P ops Q (i :: rest) a cs w := by
  simp only [wpOpsSIn, hi]
  refine ⟨fun f _ => hF f, ?_⟩
  rw [if_pos hw, hr]; exact h
theorem ass (hi : ops[i]? = some o) (hF : ∀ f, Fc.fn f) (hw : Region.wanted o (yielded ops a.tmps) = true) (hr : (execOp a.eval o).run P w = .ok (.value v) w)
    (h : wpOpsSIn Fc n P ops Q rest (a.put o.dst v) cs w) : wpOpsSIn Fc n P ops Q (i :: rest) a cs w := by
  simp only [wpOpsSIn, hi]
  refine ⟨fun f _ => hF f, ?_⟩
  rw [if_pos hw, hr]; exact h
end

theorem aio {P : Program} {tt : TT} (ht : oq P tt) {f : FuncId} {fn : Func} {y : Code} {ps : List PV} {σ σ' : Sto} {u u' : FrameMode} {rv : PV} {id t1 t2 : Nat} {ty1 ty2 : TypeId} {pos1 pos2 : String} {af1 af2 : Array Edge}
    (hf : P.funcs[f]? = some fn) (hb : fn.body = some (.seq (.region id #[⟨some t1, .call ⟨.builtin .recover, #[], #[]⟩, ty1, pos1, af1, none⟩, ⟨some t2, .assign (.tmp t1), ty2, pos2, af2, none⟩] false) y))
    (hnt : ps.length ≤ fn.ntmps) (hnd : (x8 fn.results.toList).Nodup) (ht1 : t1 < fn.ntmps) (ht2 : t2 < fn.ntmps)
    (hu : (u = .returning ∧ u' = .returning ∧ rv = .nilif) ∨ ∃ T v older, u = .panicking ({ v := .iface T v, recovered := false } :: older) ∧ u' = .panicking ({ v := .iface T v, recovered := true } :: older) ∧ rv = .raw T v)
    (h : xh σ → SatK P none fn.ntmps σ.length y ((t2, rv) :: (t1, rv) :: xw ps) σ (gu tt fn σ.length fun _ s => s = σ')) : ag9 P f ps σ σ' u u' := by
  rintro ⟨Fp, Fd⟩ G w vs hl hs
  have hF0 : Fd = [] := hs.marks
  subst hF0
  refine callsDIn_of_wpSIn hf hb trivial fun c₀ cs hc0 => ?_
  obtain ⟨rval, hrec, hrep⟩ : ∃ rval, (match recoverD (c₀ :: cs) with | some (v, cs') => v = rval ∧ cs' = { c₀ with mode := u' } :: cs | none => rval = .nilIface ∧ c₀ = { c₀ with mode := u' }) ∧ RepS G w rval rv := by
    rcases hu with ⟨e1, e2, rfl⟩ | ⟨T, v, older, e1, e2, rfl⟩
    · refine ⟨.nilIface, ?_, .pl .nilif⟩
      rw [e1] at hc0
      have hr : recoverD (c₀ :: cs) = none := by simp only [recoverD, hc0]
      rw [hr]
      exact ⟨rfl, by rw [e2, ← hc0]⟩
    · refine ⟨.iface T v, ?_, .pl (.raw _ _)⟩
      rw [e1] at hc0
      have hr : recoverD (c₀ :: cs) = some (.iface T v, { c₀ with mode := .panicking ({ v := .iface T v, recovered := true } :: older) } :: cs) := by simp only [recoverD, hc0]
      rw [hr]
      exact ⟨rfl, by rw [e2]⟩
  have hrlt : rv.lt σ.length := by rcases hu with ⟨_, _, rfl⟩ | ⟨T, v, older, _, _, rfl⟩ <;> trivial
  have hs0 := hs.enter fn.ntmps hnt hl
  have hs1 := hs0.setS ht1 hrep hrlt
  have hs2 := hs1.setS ht2 hrep hrlt
  have hk := (h hs.stolt).go _ G _ w hs2
  generalize hA : ({ tmps := vs ++ Array.replicate (fn.ntmps - vs.size) undef, defers := [] } : Act) = A at *
  have hAd : A.defers = [] := by rw [← hA]
  have hsz : t1 < A.tmps.size := by rw [hs0.size]; exact ht1
  have hev : (A.put (some t1) rval).eval (.tmp t1) = rval := by
    show (A.put (some t1) rval).tmps.getD t1 undef = rval
    rw [agx hsz, if_pos rfl]
  have hrun2 : (execOp (A.put (some t1) rval).eval ⟨some t2, .assign (.tmp t1), ty2, pos2, af2, none⟩).run P w = .ok (.value rval) w := by
    simp [execOp, hev]
  refine wpSIn_seq (wpSIn_region ?_)
  have fin : ∀ cs', cs' = { c₀ with mode := u' } :: cs → Exit.thenS (y.wpSIn (Wd none) 0 P (bodyPostS P fn c₀ cs fun e u'' w' => u'' = u' ∧ ∃ v r G', e = .returned v ∧ Sim 1 σ.length ⟨Fp, []⟩ G' [(0, r)] σ' ⟨#[v], []⟩ w' ∧ Evol σ.length Fp G w G' w'))
      (bodyPostS P fn c₀ cs fun e u'' w' => u'' = u' ∧ ∃ v r G', e = .returned v ∧ Sim 1 σ.length ⟨Fp, []⟩ G' [(0, r)] σ' ⟨#[v], []⟩ w' ∧ Evol σ.length Fp G w G' w') .normal ((A.put (some t1) rval).put (some t2) rval) cs' w := by
    rintro cs' rfl
    refine wpSIn_of_wpIn rfl (wpIn_mono hk fun e a' w' q => ?_)
    obtain ⟨⟨G', env', σ2, ⟨he, rs, τ, ex, hres, htup, hσ, hmst, hlt, hR⟩, hs', hv⟩, hd⟩ := q
    rw [put_defers, put_defers, hAd] at hd
    obtain ⟨hmk, hst⟩ : σ.length ≤ τ.length ∧ xh τ := by
      rcases hmst with e | h
      · subst e; rw [List.append_nil] at hσ; subst hσ; exact ⟨hs'.floor, hs'.stolt⟩
      · exact h
    have htake : σ2.take τ.length = τ := by rw [hσ]; simp
    have hkl : τ.length ≤ σ2.length := by rw [hσ]; simp
    subst hR
    obtain ⟨vs', k1, k2, k3, k4⟩ := agr (P := P) ht hs' _ _ hres htup hnd
    have hlv := hs'.leave hnd htup k2 k4 hmk hkl hlt (fun i e hi hik => hst i e (by rw [← htake, List.getElem?_take, if_pos hik]; exact hi)) rfl
    rw [htake] at hlv
    rcases he with rfl | rfl
    · exact ⟨hd, u', rfl, _, ac9 k1, rfl, _, _, G', rfl, hlv, hv⟩
    · exact ⟨hd, u', rfl, _, ac9 k1, rfl, _, _, G', rfl, hlv, hv⟩
  refine asr (i := 0) (rest := [1]) rfl (fun _ => trivial) rfl (an0 _ _ _ _ _) ?_
  have two : ∀ cs', cs' = { c₀ with mode := u' } :: cs → wpOpsSIn (Wd none) 0 P #[⟨some t1, .call ⟨.builtin .recover, #[], #[]⟩, ty1, pos1, af1, none⟩, ⟨some t2, .assign (.tmp t1), ty2, pos2, af2, none⟩] (Exit.thenS (y.wpSIn (Wd none) 0 P (bodyPostS P fn c₀ cs fun e u'' w' => u'' = u' ∧ ∃ v r G', e = .returned v ∧ Sim 1 σ.length ⟨Fp, []⟩ G' [(0, r)] σ' ⟨#[v], []⟩ w' ∧ Evol σ.length Fp G w G' w'))
      (bodyPostS P fn c₀ cs fun e u'' w' => u'' = u' ∧ ∃ v r G', e = .returned v ∧ Sim 1 σ.length ⟨Fp, []⟩ G' [(0, r)] σ' ⟨#[v], []⟩ w' ∧ Evol σ.length Fp G w G' w')) [1] (A.put (some t1) rval) cs' w := by
    intro cs' hcs
    exact ass (i := 1) (rest := []) rfl (fun _ => trivial) rfl hrun2 (fin cs' hcs)
  cases hrd : recoverD (c₀ :: cs) with
  | none =>
    rw [hrd] at hrec
    rw [← hrec.1]
    exact two _ (by rw [← hrec.2])
  | some x =>
    obtain ⟨v, cs'⟩ := x
    rw [hrd] at hrec
    obtain ⟨h1, h2⟩ := hrec
    subst h1
    exact two _ h2

def aop (P : Program) (tt : TT) (fn : Func) (m : Nat) (R : PV → Sto → Prop) (g : FuncId) (ps : List PV) : Post := fun e env σ =>
  ∃ u u' σ', (((e = .normal ∨ e = .ret) ∧ u = .returning) ∨ ∃ ch, e = .panic ch ∧ u = .panicking ch) ∧ settle u' = .returning ∧ ps.all (fun p => p.isS) = true ∧ ag9 P g ps σ σ' u u' ∧ gu tt fn m R .ret env σ'

theorem avm {P : Program} {tt : TT} (ht : oq P tt) {f g : FuncId} {fn : Func} {x y : Code} {ps cs : List PV} {σ σ1 : Sto} {env1 : Env} {R : PV → Sto → Prop} {id t : Nat} {cap : Array Operand} {ty1 ty2 : TypeId} {pos1 pos2 : String} {af1 af2 : Array Edge}
    (hf : P.funcs[f]? = some fn) (hb : fn.body = some (.seq x (.seq (.region id #[⟨some t, .makeFunc (.func g) #[] cap, ty1, pos1, af1, none⟩, ⟨none, .defer ⟨.value (.tmp t), #[], #[]⟩, ty2, pos2, af2, none⟩] false) y)))
    (hnt : ps.length ≤ fn.ntmps) (hnd : (x8 fn.results.toList).Nodup) (ht1 : t < fn.ntmps) (hcal : jd P g) (hlt1 : o6 σ1.length cs)
    (hx : xh σ → SatK P none fn.ntmps σ.length x (xw ps) σ fun e env' s => e = .normal ∧ env' = env1 ∧ s = σ1)
    (hm : LookAt P fn.ntmps σ.length env1 σ1 ⟨some t, .makeFunc (.func g) #[] cap, ty1, pos1, af1, none⟩ (.fn (.func g) [] cs))
    (hy : xh σ1 → Sat P none fn.ntmps σ1.length y ((t, .fn (.func g) [] cs) :: env1) σ1 (aop P tt fn σ.length R g cs)) : jo P f ps σ R := by
  rintro ⟨Fp, Fd⟩ G w vs hl hs
  have hF0 : Fd = [] := hs.marks
  subst hF0
  refine callsIn_of_wp_marks hf hb trivial ?_
  refine wpIn_seq (wpIn_mono ((hx hs.stolt).go _ G _ w (hs.enter fn.ntmps hnt hl)) fun e a1 w1 q => ?_)
  obtain ⟨⟨G1, env', s1, ⟨rfl, rfl, rfl⟩, hs1, hv1⟩, hd1⟩ := q
  have hd1 : a1.defers = [] := hd1
  show Code.wpIn _ _ _ _ _ _ _
  obtain ⟨fv, hrun, hrep, hflt⟩ := hm.go _ _ _ _ hs1
  have hfs : RepS G1 w1 fv (.fn (.func g) [] cs) := by
    rcases hrep with h | h | ⟨_, _, _, h, _⟩
    · cases h
    · exact h
    · cases h
  obtain ⟨xs, ys, e1, e2, e3, e4, e5⟩ := hfs.fnv
  have hxs : xs = #[] := Array.eq_empty_of_size_eq_zero (by simpa using e2)
  subst hxs
  let dd : Deferred := { target := .fn (.func g) ys, args := #[] }
  have hs2 := hs1.setS ht1 hfs (by simpa [PV.lt, o6] using hlt1)
  generalize hA2 : a1.put (some t) fv = a2 at *
  have hd2 : a2.defers = [] := by rw [← hA2, put_defers]; exact hd1
  have hev : a2.eval (.tmp t) = fv := by
    show a2.tmps.getD t undef = fv
    rw [← hA2, agx (by rw [hs1.size]; exact ht1), if_pos rfl]
  have hrund : (execOp a2.eval ⟨none, .defer ⟨.value (.tmp t), #[], #[]⟩, ty2, pos2, af2, none⟩).run P w1 = .ok (.defer dd) w1 := by
    simp [execOp, resolve, hev, e1, Deferred.ofValue, dd]
  have hs3 : Sim fn.ntmps s1.length ⟨Fp, [dd]⟩ G1 ((t, .fn (.func g) [] cs) :: env') s1 ⟨a2.tmps, [dd]⟩ w1 :=
    ⟨hs2.size, hs2.rep, hs2.envlt, hs2.sto, hs2.stolt, hs2.kfree, hs2.inj, hs2.uniq, hs2.fr, hs2.frlt, .inl ⟨rfl, fun d' hd' b hb' => by simp at hd'; subst hd'; cases hb'⟩, fun d' hd' b hb' => (by simp at hd'; subst hd'; cases hb'), Nat.le_refl _⟩
  refine wpIn_seq (wpIn_mono (wpIn_region_lit (l := [⟨some t, .makeFunc (.func g) #[] cap, ty1, pos1, af1, none⟩, ⟨none, .defer ⟨.value (.tmp t), #[], #[]⟩, ty2, pos2, af2, none⟩]) (Q := fun e a' w' => e = .normal ∧ a' = ⟨a2.tmps, [dd]⟩ ∧ w' = w1) ?_) fun e a' w' q => ?_)
  · refine abk rfl (upon_value (by simp) hrun ?_)
    show wpListIn _ _ _ _ _ _ (a1.put (some t) fv) _
    rw [hA2]
    refine abk rfl ⟨fun _ _ => trivial, ?_⟩
    rw [show (Wd none).round = none from rfl, Oper.semAt_none, hrund, Oper.uponIn_defer]
    refine wpListIn_nil ⟨rfl, ?_, rfl⟩
    show ({ a2 with defers := dd :: a2.defers } : Act) = _
    rw [hd2]
  obtain ⟨rfl, ha, hw⟩ := q
  rw [ha, hw]
  clear ha hw a' w'
  show Code.wpIn _ _ _ _ _ _ _
  refine wpIn_mono ((hy hs1.stolt).go _ G1 _ _ hs3) fun e a' w' q => ?_
  obtain ⟨G', env2, s2, ⟨u, u', σ', hu, hset, hcS, hdef, _, rs, τ, ex, hres, htup, hσ, hmst, hlt, hR⟩, hs', hv⟩ := q
  have out : u ≠ .run → LeavesInM (Wd none) 0 P fn a'.tmps (fun e w' => ∃ v r σ' G', e = .returned v ∧ R r σ' ∧ Sim 1 σ.length ⟨Fp, []⟩ G' [(0, r)] σ' ⟨#[v], []⟩ w' ∧ Evol σ.length Fp G w G' w') a'.defers u w' := by
    intro hur
    refine adz hur a'.defers w' hs' fun w2 hs4 hv4 => ?_
    have hle : wh G1.K w1 G'.K w2 := (hv.trans hv4).le
    have hbs : ∀ i, i < s1.length → G'.bs i = G1.bs i := (hv.trans hv4).bs
    have hcallee := hs4.callee (ps := cs) (vs := ys) e3 fun j v p hv' hp => by
      have h1 := e5 j v p hv' hp
      have h2 := mo.1 hlt1 p (List.mem_of_getElem? hp)
      have h3 := h1.mono hle hbs h2
      have hpS : p.isS = true := List.all_eq_true.1 hcS p (List.mem_of_getElem? hp)
      exact ⟨.sh h3, yz h3, zh hs4.floor h2, by cases p <;> first | rfl | cases hpS⟩
    have hc := hdef _ G' w2 ys e3 hcallee
    obtain ⟨fng, hf1, hf2, hf3⟩ := hcal
    have n1 : ¬ fng.name = "runtime.NumGoroutine" := by simpa using hf2
    have n2 : ¬ fng.body = none := by intro h; simp [h] at hf3
    refine ⟨hur, .inr ⟨fun h => by simp [Wd, Fence.wide] at h, .func g, ys, g, ys, rfl, by simp [dd, invoke, callFunc, hf1, n1, n2], fun _ _ => trivial, hc.mono fun e u2 w3 ⟨hu2, v, r, G3, he, hs5, hv5⟩ => ?_⟩⟩
    subst he
    subst hu2
    obtain ⟨_, hs6, hv6⟩ := hs4.back hs5 hv5
    show LeavesInM _ _ _ _ _ _ [] (settle u2) w3
    rw [hset]
    have hs7 : Sim fn.ntmps σ.length ⟨Fp, []⟩ G3 env2 σ' ⟨a'.tmps, []⟩ w3 :=
      ⟨hs6.size, hs6.rep, hs6.envlt, hs6.sto, hs6.stolt, hs6.kfree, hs6.inj, hs6.uniq, hs6.fr, hs6.frlt, rfl, fun d' hd' => (by cases hd'), Nat.le_trans hs1.floor hs6.floor⟩
    obtain ⟨hmk, hst⟩ : σ.length ≤ τ.length ∧ xh τ := by
      rcases hmst with e | h
      · subst e; rw [List.append_nil] at hσ; subst hσ; exact ⟨hs7.floor, hs7.stolt⟩
      · exact h
    have htake : σ'.take τ.length = τ := by rw [hσ]; simp
    have hkl : τ.length ≤ σ'.length := by rw [hσ]; simp
    obtain ⟨vs', k1, k2, k3, k4⟩ := agr (P := P) ht hs7 _ _ hres htup hnd
    have hlv := hs7.leave hnd htup k2 k4 hmk hkl hlt (fun i e hi hik => hst i e (by rw [← htake, List.getElem?_take, if_pos hik]; exact hi)) rfl
    rw [htake] at hlv
    have hvv : Evol s1.length Fp G1 w1 G3 w3 := (hv.trans hv4).trans hv6
    have hv9 : Evol σ.length Fp G1 w1 G3 w3 := ⟨hvv.os, hvv.tape, hvv.output, hvv.size, hvv.fr, hvv.imm, fun i hi => hvv.bs i (Nat.lt_of_lt_of_le hi hs1.floor)⟩
    exact ⟨_, ac9 k1, _, abb rs, τ, G3, rfl, hR, hlv, hv1.trans hv9⟩
  rcases hu with ⟨rfl | rfl, rfl⟩ | ⟨ch, rfl, rfl⟩
  · exact out (by simp)
  · exact out (by simp)
  · exact out (by simp)

section
variable {P : Program} {tt : TT} {l : Option Nat} {n m : Nat} {env : Env} {σ τ ex : Sto} {Q : Post} {all : Array Oper} {rest : List Oper} {d : Nat} {ty : TypeId} {pos : String} {after : Array Edge}
theorem anz (ht : oq P tt) {t eT : TypeId} {e : TI} {xs : List Operand} {es : List PV} (he : eti tt t = some e) (h1 : Nat.beq e.size 1 = true) (hps : es = xs.map (opv tt env eT)) (hS : ∀ p ∈ es, ∃ i off, p = .ptr i off)
    (hbig : es.length ≤ 16777216) {len : Nat} {parts : Array (Nat × Operand)} (hlen : len = es.length) (hparts : parts = ((xs.zipIdx 0).map fun x => (x.2, x.1)).toArray) (hd : d < n)
    (h : SatOps P l n m all rest ((d, .bsl σ.length 0 1 es.length es.length) :: env) (σ ++ [.cells es]) Q) : SatOps P l n m all (⟨some d, .buildSlice t len parts, ty, pos, after, none⟩ :: rest) env σ Q := by
  subst hparts hlen
  have h1 := Nat.eq_of_beq_eq_true h1
  refine ym rfl (by simp) fun F G a w hs => ?_
  obtain ⟨eT', hu, hT⟩ := aao ht he
  have hrep : ∀ (i : Nat) x, xs[i]? = some x → (a.eval x).cells = #[a.eval x] ∧ RepS G w (a.eval x) (opv tt env eT x) := by
    intro i x hx
    obtain ⟨j, off, hj⟩ := hS _ (show opv tt env eT x ∈ es by rw [hps]; exact List.mem_map.2 ⟨x, List.mem_of_getElem? hx, rfl⟩)
    have h0 := o7 hs tt eT x
    rw [hj] at h0 ⊢
    have h2 := h0.toS rfl
    refine ⟨?_, h2⟩
    rw [h2.ptrv]; rfl
  have hlen : es.length = xs.length := by rw [hps]; simp
  have hcs : ∀ v ∈ xs.map a.eval, v.cells.size = 1 := by
    intro v hv
    obtain ⟨x, hx, rfl⟩ := List.mem_map.1 hv
    obtain ⟨i, hi, rfl⟩ := List.getElem_of_mem hx
    rw [(hrep i xs[i] (by simp [hi])).1]; rfl
  obtain ⟨z, hz, _⟩ := hT.rzero w
  obtain ⟨z0, hz0, hz1⟩ : ∃ z0 : Array Value, (es.length * 1 = 0 → z0 = #[]) ∧ (¬ es.length * 1 = 0 → z0 = z.cells) := by
    by_cases h0 : es.length * 1 = 0
    · exact ⟨#[], fun _ => rfl, fun h => absurd h0 h⟩
    · exact ⟨z.cells, fun h => absurd h h0, fun _ => rfl⟩
  obtain ⟨r, hr1, hr2, _, hr4⟩ := ai1 (sz := 1) (xs.map a.eval) 0 ((Array.range (es.length * 1)).map (z0[· % z0.size]!)) hcs (by simp [hlen])
  have hrs : r.size = es.length := by rw [hr2]; simp
  have hmap : (((xs.zipIdx 0).map fun x => (x.2, x.1)).toArray.map fun (x : Nat × Operand) => (x.1, a.eval x.2)).toList = ((xs.map a.eval).zipIdx 0).map fun x => (x.2, x.1) := by
    simp [List.zipIdx_map, List.map_map, Function.comp_def]
  have hrun : (execOp a.eval ⟨some d, .buildSlice t es.length ((xs.zipIdx 0).map fun x => (x.2, x.1)).toArray, ty, pos, after, none⟩).run P w = .ok (.value (.slice (some ⟨w.heap.size, 0, none⟩) es.length es.length)) (w.alloc (.cells r eT')) := by
    simp only [execOp, Instr.buildSlice, Sem.run_bind, underlying, hu, run_program, Result.andThen_ok, Sem.run_pure, hT.rsize w, h1]
    simp only [show ¬ (es.length * 1 > 2 ^ 24) by omega, if_false, hmap]
    by_cases h0 : es.length * 1 = 0
    · rw [if_pos h0]
      have := hz0 h0
      subst this
      simp only [Sem.run_bind, Sem.run_pure, Result.andThen_ok, hr1, newRow, run_newObj, World.alloc_eq]
    · rw [if_neg h0]
      have := hz1 h0
      subst this
      simp only [Sem.run_bind, Sem.run_pure, Result.andThen_ok, hz, hr1, newRow, run_newObj, World.alloc_eq]
  have hcell : ∀ (j : Nat) v c, r[j]? = some v → es[j]? = some c → RepO G w v c ∧ ownB v c = none := by
    intro j v c hv hc
    have hj : j < xs.length := by rw [← hlen]; exact (List.getElem?_eq_some_iff.1 hc).1
    have hx : xs[j]? = some (xs[j]'hj) := List.getElem?_eq_getElem _
    have hP := hrep j _ hx
    have hv' := hr4 j (a.eval (xs[j]'hj)) (by rw [List.getElem?_map, hx]; rfl) 0 (by omega)
    rw [hP.1, show (0 + j) * 1 + 0 = j by omega, hv] at hv'
    have e1 : v = a.eval (xs[j]'hj) := by simpa using hv'
    have e2 : c = opv tt env eT (xs[j]'hj) := by
      rw [hps, List.getElem?_map, hx] at hc; simpa using hc.symm
    rw [e1, e2]
    exact ⟨.sh hP.2, yz hP.2⟩
  have hlt : o6 σ.length es := by
    rw [mo]; intro p hp
    rw [hps] at hp
    obtain ⟨x, hx, rfl⟩ := List.mem_map.1 hp
    exact yf hs tt eT x
  have hs1 := hs.box r eT' es (by omega) hlt (fun j v c hv hc => (hcell j v c hv hc).1) (.of_sh fun j v c hv hc => (hcell j v c hv hc).2)
  refine ⟨.slice (some ⟨w.heap.size, 0, none⟩) es.length es.length, _, _, _, _, .inl hrun, hs1.setS hd (v := .slice (some ⟨w.heap.size, 0, none⟩) es.length es.length) ?_ (by simp [PV.lt]), Evol.alloc hs _ _ _ fun i hi => upd_ne _ _ (by have := hs.floor; omega), h⟩
  refine .bsl _ _ _ _ _ _ _ (Nat.le_refl _) (Nat.le_refl _) (.inr ?_)
  show _ = some (⟨(upd G.bs σ.length ⟨w.heap.size, (eT', r.size), false⟩ σ.length).b, 0, none⟩ : Addr)
  rw [upd_same]

theorem ahq (ht : oq P tt) {t : TypeId} {len k : Nat} {parts : Array (Nat × Operand)} {e : TI} {es : List PV} (he : eti tt t = some e) (h1 : Nat.beq e.size 1 = true) (hx : Opvs tt env (parts.toList.map (·.2)) es) (hS : ∀ p ∈ es, ∃ i off, p = .ptr i off)
    (hbig : Nat.ble es.length 16777216 = true) (hlen : len = parts.toList.length) (hparts : parts.toList.map (·.1) = List.range' 0 parts.toList.length) (hk : ex.length = k) (hd : Nat.ble (d + 1) n = true)
    (h : SatOps P l n m all rest ((d, .bsl (τ.length + k) 0 1 es.length es.length) :: env) (τ ++ (ex ++ [.cells es])) Q) : SatOps P l n m all (⟨some d, .buildSlice t len parts, ty, pos, after, none⟩ :: rest) env (τ ++ ex) Q := by
  refine anz ht (eT := 0) he h1 hx.e hS (nlb hbig) ?_ ?_ (ltn hd) ?_
  · rw [hx.e, List.length_map, List.length_map]; exact hlen
  · have := aly 0 hparts
    rw [← this]
  · rw [List.length_append, hk, List.append_assoc]; exact h

def asg (P : Program) (l : Option Nat) (n m : Nat) (c : Code) (Q : Post) : Nat → Env → Sto → Prop
  | 0, _, _ => False
  | k + 1, env, σ => Sat P l n m c env σ (andThen (asg P l n m c Q k) Q)
theorem agu {c : Code} (k : Nat) (h : asg P l n m c Q k env σ) : Sat P l n m (.loop c) env σ Q := by
  refine ajf (fun k env σ => asg P l n m c Q k env σ) k h fun k env σ hi => ?_
  cases k with
  | zero => exact hi.elim
  | succ k =>
    refine Sat.mono hi fun e env' σ' q => ?_
    cases e with
    | normal => exact ⟨k, Nat.lt_succ_self k, q.go⟩
    | _ => exact ⟨q.go⟩
end

end Go.Proofs.Ytbpjaiemlkcccaa.Pv
