
/- Functions that panic. -/
import Derived.Test.YtbpjaiemlkcccaaPvZv
namespace Go.Proofs.Ytbpjaiemlkcccaa.Pv
open Go
set_option linter.unusedVariables false
set_option linter.unusedSimpArgs false

def aa5 (P : Program) (f : FuncId) (ps : List PV) (σ : Sto) (R : PV → Sto → Prop) (Z : List PanicEntry → Sto → Prop) : Prop :=
  ∀ F G w (vs : Array Value), vs.size = ps.length → Sim vs.size σ.length F G (xw ps) σ ⟨vs, []⟩ w →
    CallsIn (Wd none) 0 P f vs w fun e w' => ∃ v r σ' G', ((e = .returned v ∧ R r σ') ∨ ∃ ch, e = .panicked ch ∧ Z ch σ' ∧ r = .dead) ∧ Sim 1 σ.length F G' [(0, r)] σ' ⟨#[v], []⟩ w' ∧ Evol σ.length F G w G' w'

theorem aa5.mono {P : Program} {f : FuncId} {ps : List PV} {σ : Sto} {R R' : PV → Sto → Prop} {Z Z' : List PanicEntry → Sto → Prop} (h : aa5 P f ps σ R Z) (hr : ∀ r σ', R r σ' → R' r σ') (hz : ∀ c σ', Z c σ' → Z' c σ') : aa5 P f ps σ R' Z' :=
  fun F G w vs hl hs => (h F G w vs hl hs).mono fun _ _ ⟨v, r, σ', G', h1, h2, h3⟩ => ⟨v, r, σ', G', h1.imp (fun ⟨a, b⟩ => ⟨a, hr _ _ b⟩) (fun ⟨c, a, b, d⟩ => ⟨c, a, hz _ _ b, d⟩), h2, h3⟩

def ava (tt : TT) (fn : Func) (m : Nat) (R : PV → Sto → Prop) (Z : List PanicEntry → Sto → Prop) : Post := fun e env σ =>
  gu tt fn m R e env σ ∨ ∃ ch τ ex, e = .panic ch ∧ σ = τ ++ ex ∧ (ex = [] ∨ (m ≤ τ.length ∧ xh τ)) ∧ Z ch τ

theorem au8 {P : Program} {tt : TT} (ht : oq P tt) {f : FuncId} {fn : Func} {c : Code} {ps : List PV} {σ : Sto} {R : PV → Sto → Prop} {Z : List PanicEntry → Sto → Prop} (hf : P.funcs[f]? = some fn) (hb : fn.body = some c)
    (hnt : ps.length ≤ fn.ntmps) (hnd : (x8 fn.results.toList).Nodup) (h : xh σ → Sat P none fn.ntmps σ.length c (xw ps) σ (ava tt fn σ.length R Z)) : aa5 P f ps σ R Z := by
  rintro ⟨Fp, Fd⟩ G w vs hl hs
  have hF0 : Fd = [] := hs.marks
  subst hF0
  refine callsIn_of_wp_marks hf hb trivial ?_
  refine wpIn_mono ((h hs.stolt).go _ G _ w (hs.enter fn.ntmps hnt hl)) fun e a' w' q => ?_
  obtain ⟨G', env', σ', q, hs', hv⟩ := q
  have lv : ∀ (ex τ : Sto), σ' = τ ++ ex → (ex = [] ∨ (σ.length ≤ τ.length ∧ xh τ)) → (σ.length ≤ τ.length ∧ xh τ) ∧ σ'.take τ.length = τ ∧ τ.length ≤ σ'.length := by
    intro ex τ hσ hmst
    refine ⟨?_, by rw [hσ]; simp, by rw [hσ]; simp⟩
    rcases hmst with e | h
    · subst e; rw [List.append_nil] at hσ; subst hσ; exact ⟨hs'.floor, hs'.stolt⟩
    · exact h
  rcases q with ⟨he, rs, τ, ex, hres, htup, hσ, hmst, hlt, hR⟩ | ⟨ch, τ, ex, he, hσ, hmst, hZ⟩
  · obtain ⟨⟨hmk, hst⟩, htake, hkl⟩ := lv ex τ hσ hmst
    have leaves : LeavesInM (Wd none) 0 P fn a'.tmps (fun e w' => ∃ v r σ' G', ((e = .returned v ∧ R r σ') ∨ ∃ ch, e = .panicked ch ∧ Z ch σ' ∧ r = .dead) ∧ Sim 1 σ.length ⟨Fp, []⟩ G' [(0, r)] σ' ⟨#[v], []⟩ w' ∧ Evol σ.length Fp G w G' w') a'.defers .returning w' := by
      refine adz (by simp) a'.defers w' hs' fun w1 hs1 hv1 => ?_
      obtain ⟨vs', k1, k2, k3, k4⟩ := agr (P := P) ht hs1 _ _ hres htup hnd
      refine ⟨_, ac9 k1, _, abb rs, τ, G', .inl ⟨rfl, hR⟩, ?_, hv.trans hv1⟩
      have := hs1.leave hnd htup k2 k4 hmk hkl hlt (fun i e hi hik => hst i e (by rw [← htake, List.getElem?_take, if_pos hik]; exact hi)) rfl
      rw [htake] at this; exact this
    rcases he with rfl | rfl
    · exact leaves
    · exact leaves
  · obtain ⟨⟨hmk, hst⟩, htake, hkl⟩ := lv ex τ hσ hmst
    subst he
    refine adz (by simp) a'.defers w' hs' fun w1 hs1 hv1 => ?_
    refine ⟨undef, .dead, τ, G', .inr ⟨ch, rfl, hZ, rfl⟩, ?_, hv.trans hv1⟩
    have := hs1.leave (ps := [.dead]) (vs := [undef]) (rs := []) (by simp [x8]) (by simp [PV.isTup]) rfl (fun j v p h1 h2 => by
      cases j with
      | zero => simp at h1 h2; subst h1; subst h2; exact ⟨.dead _, trivial, fun b hb => by rw [aaf] at hb; cases hb⟩
      | succ j => simp at h1) hmk hkl ⟨trivial, trivial⟩ (fun i e hi hik => hst i e (by rw [← htake, List.getElem?_take, if_pos hik]; exact hi)) rfl
    rw [htake] at this; exact this

section
variable {P : Program} {tt : TT} {l : Option Nat} {n m : Nat} {env : Env} {σ τ ex : Sto} {Q : Post} {all : Array Oper} {rest : List Oper} {d : Nat} {ty : TypeId} {pos : String} {after : Array Edge} {N : Env → Sto → Prop}

theorem y9 {ch : List PanicEntry} (h : Q (.panic ch) env σ) : andThen N Q (.panic ch) env σ := ⟨h⟩
theorem za {k : Nat} {ch : List PanicEntry} (h : Q (.panic ch) env σ) : inBlk k Q (.panic ch) env σ := ⟨h⟩

theorem at5 {fo : Operand} {args : Array Operand} {ats : Array TypeId} {f : FuncId} {ps : List PV} {R : PV → Sto → Prop} {Z : List PanicEntry → Sto → Prop} (hcal : jd P f) (hc : aa5 P f ps σ R Z) (hfo : fo = .func f)
    (hps : zy tt env args.toList ats.toList = ps) (hlen : Nat.ble args.size ats.size = true) (htup : ps.all (fun p => !p.isTup) = true)
    (hd : Nat.ble (d + 1) n = true) (hz : ∀ ch σ', Z ch σ' → Q (.panic ch) env σ') (h : ∀ r σ', R r σ' → SatOps P l n m all rest ((d, r) :: env) σ' Q) :
    SatOps P l n m all (⟨some d, .call ⟨.value fo, args, ats⟩, ty, pos, after, none⟩ :: rest) env σ Q := by
  have hd := ltn hd
  refine ⟨fun F G a w hs => ?_⟩
  obtain ⟨fn, hf1, hf2, hf3⟩ := hcal
  have hfo' := o7 hs tt 0 fo
  rw [hfo] at hfo'
  obtain ⟨xs, ys, e1, e2, e3, e4, e5⟩ := (hfo'.toS rfl).fnv
  rw [← hfo] at e1
  have hx0 : xs = #[] := Array.eq_empty_of_size_eq_zero (by simpa using e2)
  have hy0 : ys = #[] := Array.eq_empty_of_size_eq_zero (by simpa using e3)
  subst hx0
  subst hy0
  have hlen := nlb hlen
  obtain ⟨p1, p2⟩ := agt (tt := tt) hs args.toList ats.toList (by simpa using hlen) (by rw [hps]; exact htup)
  rw [hps] at p1 p2
  have hlen' : (#[] ++ args.map a.eval ++ #[]).size = ps.length := by rw [← p1]; simp
  have hsim := hs.callee hlen' fun j v p hv hp => p2 j v p (by rw [← Array.getElem?_toList] at hv; simpa using hv) hp
  have hrun : (execOp a.eval ⟨some d, .call ⟨.value fo, args, ats⟩, ty, pos, after, none⟩).run P w = .ok (.enter f (#[] ++ args.map a.eval ++ #[])) w := by
    have n1 : ¬ fn.name = "runtime.NumGoroutine" := by simpa using hf2
    have n2 : ¬ fn.body = none := by intro h; simp [h] at hf3
    simp [execOp, resolve, e1, Deferred.ofValue, invoke, callFunc, hf1, n1, n2]
  refine abk rfl ⟨fun _ _ => trivial, ?_⟩
  rw [show (Wd l).round = l from rfl, Oper.semAt_eq l _ _ (by simp), hrun]
  refine ⟨fun h => by simp [Wd, Fence.wide] at h, ?_⟩
  have := hc _ G w _ hlen' hsim
  refine CallsIn.mono (F := Wd none) this fun e w' hq => ?_
  obtain ⟨v, r, σ', G', hq, hs', hv⟩ := hq
  obtain ⟨b1, b2, b3⟩ := hs.back hs' hv
  rcases hq with ⟨rfl, hR⟩ | ⟨ch, rfl, hZ, _⟩
  · exact abe b3 rest _ _ ((h r σ' hR).go F G' _ w' (b1 d hd))
  · exact ⟨G', env, σ', hz _ _ hZ, b2, b3⟩

end

theorem aa5.move {P : Program} {f : FuncId} {ps ps' : List PV} {σ : Sto} {k : Nat} {cs : List PV} {R : PV → List PV → Prop} {Z : List PanicEntry → List PV → Prop} (hk : σ[k]? = some (.cells cs)) (hl : ps'.length = ps.length)
    (he : ∀ t, look (xw ps') t = look (xw ps) t ∨ ∃ off, look (xw ps) t = .ptr k off ∧ look (xw ps') t = .ptr σ.length off)
    (h : aa5 P f ps' (σ.set k .gone ++ [.cells cs]) (fun x s => ∃ cs', R x cs' ∧ x.lt σ.length ∧ o6 σ.length cs' ∧ s = σ.set k .gone ++ [.cells cs']) fun ch s => ∃ cs', Z ch cs' ∧ o6 σ.length cs' ∧ s = σ.set k .gone ++ [.cells cs']) :
    aa5 P f ps σ (fun x s => ∃ cs', R x cs' ∧ s = σ.set k (.cells cs')) fun ch s => ∃ cs', Z ch cs' ∧ s = σ.set k (.cells cs') := by
  intro F G w vs hv hs
  have hkl : k < σ.length := (List.getElem?_eq_some_iff.1 hk).1
  have hK := ah9 hs hk
  have hF : ¬ F (G.bs k).b := hs.inj k _ hk (.inl ⟨_, rfl⟩)
  have hlen : (σ.set k .gone ++ [Ent.cells cs]).length = σ.length + 1 := by simp
  refine (h F _ w vs (by rw [hl]; exact hv) (hs.moveOut hk he)).mono fun e w' ⟨v, r, σ', G', h1, h6, h7⟩ => ?_
  have hb1 : G'.bs k = G.bs k := by rw [h7.bs k (by rw [hlen]; omega)]; exact upd_ne _ _ (by omega)
  have hb2 : G'.bs σ.length = G.bs k := by rw [h7.bs σ.length (by rw [hlen]; omega)]; exact upd_same _ _ _
  obtain ⟨cs', h3, h4, h5, h8⟩ : ∃ cs', r.lt σ.length ∧ o6 σ.length cs' ∧ σ' = σ.set k .gone ++ [.cells cs'] ∧ ((e = .returned v ∧ R r cs') ∨ ∃ ch, e = .panicked ch ∧ Z ch cs' ∧ r = .dead) := by
    rcases h1 with ⟨rfl, cs', q1, q2, q3, q4⟩ | ⟨ch, rfl, ⟨cs', q1, q2, q3⟩, rfl⟩
    · exact ⟨cs', q2, q3, q4, .inl ⟨rfl, q1⟩⟩
    · exact ⟨cs', trivial, q2, q3, .inr ⟨ch, rfl, q1, rfl⟩⟩
  subst h5
  refine ⟨v, r, σ.set k (.cells cs'), _, ?_, h6.moveIn (Nat.le_refl _) hkl (hb1.trans hb2.symm) (fun t => ?_) (fun i e hi _ => hs.stolt i e hi) h4, ⟨h7.os, h7.tape, h7.output, h7.size, fun b hb => ?_, fun b p hp => ?_, fun i hi => ?_⟩⟩
  · rcases h8 with ⟨rfl, q⟩ | ⟨ch, rfl, q, q2⟩
    · exact .inl ⟨rfl, cs', q, rfl⟩
    · exact .inr ⟨ch, rfl, ⟨cs', q, rfl⟩, q2⟩
  · by_cases e : t = 0
    · subst e; exact h3
    · rw [qg, if_neg e]; trivial
  · obtain ⟨k1, k2⟩ := h7.fr b hb
    have hne : b ≠ (G.bs k).b := fun e => hF (e ▸ hb)
    refine ⟨k1, ?_⟩
    show upd G'.K (G'.bs k).b (.box k) b = _
    rw [hb1, upd_ne _ _ hne, k2]
    exact upd_ne _ _ hne
  · have hne : b ≠ (G.bs k).b := fun e => by subst e; rw [hK] at hp; cases hp
    obtain ⟨p', k1, k2, k3⟩ := h7.imm b p (by show upd G.K _ _ b = _; rw [upd_ne _ _ hne]; exact hp)
    refine ⟨p', k1, ?_, k3⟩
    show upd G'.K (G'.bs k).b (.box k) b = _
    rw [hb1, upd_ne _ _ hne]; exact k2
  · show G'.bs i = _
    rw [h7.bs i (by rw [hlen]; omega)]; exact upd_ne _ _ (by omega)

section
variable {P : Program} {tt : TT} {l : Option Nat} {n m : Nat} {env : Env} {σ τ ex : Sto} {Q : Post} {all : Array Oper} {rest : List Oper} {d : Nat} {ty : TypeId} {pos : String} {after : Array Edge}
theorem arl {k : Nat} {cs cs' : List PV} {fo : Operand} {args : Array Operand} {ats : Array TypeId} {f : FuncId} {qs : List PV} {c : Prop} [Decidable c] {p : PV} {Z : List PanicEntry → Prop} (hcal : jd P f) (hk : ex[k]? = some (.cells cs))
    (hc : ∀ σ : Sto, aa5 P f (.ptr (σ.length + 0) 0 :: qs) (σ ++ [.cells cs]) (fun x s => c ∧ x = p ∧ s = σ ++ [.cells cs']) fun ch s => ¬ c ∧ Z ch ∧ s = σ ++ [.cells cs]) (hp : p.lt 0) (hcs : o6 0 cs) (hcs' : o6 0 cs')
    (hfo : fo = .func f) (hps : zy tt env args.toList ats.toList = .ptr (τ.length + k) 0 :: qs) (hlen : Nat.ble args.size ats.size = true)
    (htup : (PV.ptr 0 0 :: qs).all (fun p => !p.isTup) = true) (hd : Nat.ble (d + 1) n = true) (hz : ¬ c → ∀ ch, Z ch → Q (.panic ch) env (τ ++ ex)) (h : c → SatOps P l n m all rest ((d, p) :: env) (τ ++ ex.set k (.cells cs')) Q) :
    SatOps P l n m all (⟨some d, .call ⟨.value fo, args, ats⟩, ty, pos, after, none⟩ :: rest) env (τ ++ ex) Q := by
  have hk' : (τ ++ ex)[τ.length + k]? = some (.cells cs) := by rw [wo]; exact hk
  have hl1 : ((τ ++ ex).set (τ.length + k) .gone).length = (τ ++ ex).length := List.length_set ..
  have up : ∀ {l : List PV}, o6 0 l → o6 (τ ++ ex).length l := fun h => by rw [mo] at h ⊢; exact fun v hv => zh (Nat.zero_le _) (h v hv)
  refine at5 (tt := tt) hcal (aa5.move (R := fun x c' => c ∧ x = p ∧ c' = cs') (Z := fun ch c' => ¬ c ∧ Z ch ∧ c' = cs) (ps := .ptr (τ.length + k) 0 :: qs) (ps' := .ptr ((τ ++ ex).length + 0) 0 :: qs) hk' rfl (fun t => ?_) ?_) hfo hps hlen htup hd (fun ch s ⟨c', ⟨h0, h1, h2⟩, h3⟩ => ?_) fun r s ⟨c', ⟨h0, h1, h2⟩, h3⟩ => ?_
  · cases t with
    | zero => exact .inr ⟨0, by show look (acx 0 _) 0 = _; rw [yo]; rfl, by show look (acx 0 _) 0 = _; rw [yo]; rfl⟩
    | succ t => refine .inl ?_; show look (acx 0 _) _ = look (acx 0 _) _; rw [yo, yo]; rfl
  · have := hc ((τ ++ ex).set (τ.length + k) .gone)
    rw [hl1] at this
    exact this.mono (fun x s ⟨q0, q1, q2⟩ => ⟨cs', ⟨q0, q1, rfl⟩, by rw [q1]; exact zh (Nat.zero_le _) hp, up hcs', q2⟩) fun ch s ⟨q0, q1, q2⟩ => ⟨cs, ⟨q0, q1, rfl⟩, up hcs, q2⟩
  · subst h2; subst h3
    have e : (τ ++ ex).set (τ.length + k) (.cells c') = τ ++ ex := List.ext_getElem? fun j => by
      rw [List.getElem?_set]
      split
      · rename_i e; subst e
        first
          | (rw [hk']; split <;> rfl)
          | (split
             · rw [hk']
             · rename_i h; exact absurd (List.getElem?_eq_some_iff.1 hk').1 h)
      · rfl
    rw [e]; exact hz h0 ch h1
  · subst h1; subst h2; subst h3
    rw [abr]; exact h h0
end
end Go.Proofs.Ytbpjaiemlkcccaa.Pv
