/- The framework of plain values, part 2: what a program's words stand for, step by step. -/
import Derived.Test.YtbpjaiemlkcccaaPvM1
import Derived.ChangeArms
import Derived.ChangeOld
import Derived.DataReads
import Derived.Below
import Derived.ChangeShapes
import Derived.WideShapes
import Derived.ChangeMaps5
import Derived.Laws.StructEq
import Derived.Laws.BytesString
import Derived.Lib.ConvBytes
set_option linter.unusedVariables false
set_option linter.unusedSimpArgs false
section
/- The statement that ranges over a function. -/
namespace Go.Proofs.Ytbpjaiemlkcccaa.Pv
open Go
section
variable {n m : Nat} {F : Fr} {G : Gh} {env : Env} {σ : Sto} {a : Act} {w : World}
theorem Sim.toGone (h : Sim n m F G env σ a w) {i : Nat} {st : LoopState} {pend : Option Code} {rcd : Loop} {env0 : Env} (hi : σ[i]? = some (.loop st pend rcd env0)) : Sim n m F G env (σ.set i .gone) a w := by
  have hilt : i < σ.length := (List.getElem?_eq_some_iff.1 hi).1
  have hget : ∀ k e, (σ.set i .gone)[k]? = some e → (k = i ∧ e = .gone) ∨ (k ≠ i ∧ σ[k]? = some e) := by
    intro k e hk
    rw [List.getElem?_set] at hk
    split at hk
    · rename_i e1; cases hk; exact .inl ⟨e1.symm, rfl⟩
    · rename_i e1; exact .inr ⟨fun e2 => e1 e2.symm, hk⟩
  have key : ∀ l, nz G env (σ.set i .gone) a.tmps w l = nz G env σ a.tmps w l := by
    intro l
    cases l with
    | slot t j => rfl
    | cell k j =>
      simp only [nz]
      by_cases e : k = i
      · subst e; rw [hi, List.getElem?_set_self hilt]
      · rw [List.getElem?_set_ne (fun e2 => e e2.symm)]
  refine ⟨h.size, h.rep, fun t => by rw [List.length_set]; exact h.envlt t, fun k e hk => ?_, fun k e hk => ?_, h.kfree, fun k e hk hc => ?_, fun l1 l2 x h1 h2 => ?_, fun l x hl => ?_, h.frlt, h.marks, h.markF, by rw [List.length_set]; exact h.floor⟩
  · rcases hget k e hk with ⟨_, rfl⟩ | ⟨_, hk⟩
    · trivial
    · exact h.sto k e hk
  · rw [List.length_set]
    rcases hget k e hk with ⟨_, rfl⟩ | ⟨_, hk⟩
    · trivial
    · exact h.stolt k e hk
  · rcases hget k e hk with ⟨_, rfl⟩ | ⟨_, hk⟩
    · rcases hc with ⟨c, hc⟩ | ⟨x, y, z, u, hc⟩ <;> cases hc
    · exact h.inj k e hk hc
  · rw [key] at h1 h2; exact h.uniq l1 l2 x h1 h2
  · rw [key] at hl; exact h.fr l x hl
end
section
variable {P : Program} {tt : TT} {n m : Nat} {env : Env} {σ : Sto} {Q : Post}
theorem avk {G : Gh} {w : World} {v : Value} {gf : FuncId} {as bs : List PV} (h : RepS G w v (.fn (.func gf) as bs)) : ∃ xs ys : Array Value, v = .func (.func gf) xs ys ∧ xs.size = as.length ∧ ys.size = bs.length ∧
    (∀ (j : Nat) v c, xs[j]? = some v → as[j]? = some c → RepS G w v c) ∧ ∀ (j : Nat) v c, ys[j]? = some v → bs[j]? = some c → RepS G w v c := by
  cases h with
  | pl h => cases h
  | fn f xs ys as bs h1 h2 h3 h4 => exact ⟨xs, ys, rfl, h1, h2, h3, h4⟩
theorem ar2 {g : Operand} {params : Array Tmp} {assign body : Code} {gf : FuncId} {as bs : List PV} (env0 : Env) (hcal : jd P gf) (hg : opv tt env 0 g = .fn (.func gf) as bs)
    (he0 : ∀ t, look env0 t = .dead ∨ (look env0 t = look env t ∧ (look env t).isS = true)) (htup : ((as ++ bs).all fun p => !p.isTup) = true)
    (h : ∀ rcd : Loop, rcd.tmps.size = n → rcd.params = params → rcd.assign = assign → rcd.body = body →
      ∃ R, jo P gf (as ++ (.yld σ.length :: bs)) (σ ++ [.loop .ready none rcd env0]) R ∧ ∀ r σ', R r σ' → ∃ st pend, σ'[σ.length]? = some (.loop st pend rcd env0) ∧ st ≠ .busy ∧
        match pend with
        | none => Q .normal env (σ'.set σ.length .gone)
        | some c => Sat P none n m c env (σ'.set σ.length .gone) Q) :
    Sat P none n m (.rangeFunc g params assign body) env σ Q := by
  refine ⟨fun F G a w hs => ?_⟩
  obtain ⟨fn, hf1, hf2, hf3⟩ := hcal
  refine wpIn_rangeFunc fun fr hfr => ?_
  let rcd : Loop := { state := .ready, pending := none, fn := fr, tmps := a.tmps, params, assign, body, defers := w.heap.size }
  obtain ⟨R, hcall, hback⟩ := h rcd hs.size rfl rfl rfl
  let w1 := w.alloc (.deferred (some []))
  let w2 := w1.alloc (.loop rcd)
  let a' : Act := { a with defers := { target := .collected w.heap.size, args := #[] } :: a.defers }
  have hs1 : Sim n m F ⟨upd G.K w.heap.size .keep, G.bs⟩ env σ a' w1 := hs.pushMark
  have hv1 : Evol m F G w ⟨upd G.K w.heap.size .keep, G.bs⟩ w1 := Evol.alloc hs _ _ _ fun _ _ => rfl
  have hlt0 : ∀ t, (look env0 t).lt σ.length := fun t => by
    rcases he0 t with e | ⟨e, _⟩
    · rw [e]; trivial
    · rw [e]; exact hs.envlt t
  have hs2 := hs1.boxLoop rcd env0 hlt0 (fun t => by
    rcases he0 t with e | ⟨e, e2⟩
    · exact .inl e
    · refine .inr ?_
      have := hs1.rep t
      rw [e]
      exact this.toS e2) rfl rfl
  have hv2 : Evol m F ⟨upd G.K w.heap.size .keep, G.bs⟩ w1 ⟨upd (upd G.K w.heap.size .keep) w1.heap.size (.box σ.length), upd G.bs σ.length ⟨w1.heap.size, (0, 0), false⟩⟩ w2 :=
    Evol.alloc hs1 _ _ _ fun i hi => upd_ne _ _ (by have := hs.floor; omega)
  have hl1 : w1.heap.size = w.heap.size + 1 := by simp [w1]
  generalize hG2 : (⟨upd (upd G.K w.heap.size .keep) w1.heap.size (.box σ.length), upd G.bs σ.length ⟨w1.heap.size, (0, 0), false⟩⟩ : Gh) = G2 at hs2 hv2
  have hbs2 : G2.bs σ.length = w.heap.size + 1 := by rw [← hG2]; simp [upd_same, hl1]
  have hs2 : Sim n m F G2 env (σ ++ [.loop .ready none rcd env0]) a' w2 := hs2
  have hgo := o7 hs2 tt 0 g
  have hgl := yf hs2 tt 0 g
  rw [hg] at hgo hgl
  obtain ⟨xs, ys, e1, e2, e3, e4, e5⟩ := avk (hgo.toS rfl)
  have e1 : a.eval g = .func (.func gf) xs ys := e1
  simp only [PV.lt] at hgl
  have hS : ∀ {v : Value} {p : PV}, RepS G2 w2 v p → p.lt (σ ++ [Ent.loop .ready none rcd env0]).length → RepO G2 w2 v p ∧ ownB v p = none ∧ p.lt (σ ++ [Ent.loop .ready none rcd env0]).length ∧ p.isTup = false := fun {v p} h hl => ⟨.sh h, yz h, hl, by
    cases p <;> first | rfl | exact h.notup.elim⟩
  have hlen' : (xs ++ #[Value.func (.yield (w.heap.size + 1)) #[] #[]] ++ ys).size = (as ++ (.yld σ.length :: bs)).length := by simp [e2, e3]; omega
  have hsim := hs2.callee hlen' fun j v p hv hp => by
    rw [← Array.getElem?_toList] at hv
    simp only [Array.toList_append, List.append_assoc] at hv
    by_cases h1 : j < xs.size
    · rw [List.getElem?_append_left (by simpa using h1)] at hv
      rw [List.getElem?_append_left (by omega)] at hp
      exact hS (e4 j v p (by simpa using hv) hp) (mo.1 hgl.1 p (List.mem_of_getElem? hp))
    · rw [List.getElem?_append_right (by simp; omega)] at hv
      rw [List.getElem?_append_right (by omega)] at hp
      simp only [Array.length_toList] at hv
      rw [← e2] at hp
      cases hj : j - xs.size with
      | zero =>
        rw [hj] at hv hp
        simp at hv hp
        subst hv; subst hp
        refine hS ?_ (by simp [PV.lt])
        rw [← hbs2]; exact .yld σ.length
      | succ k =>
        rw [hj] at hv hp
        simp at hv hp
        exact hS (e5 k v p (by simpa using hv) hp) (mo.1 hgl.2 p (List.mem_of_getElem? hp))
  have n1 : ¬ fn.name = "runtime.NumGoroutine" := by simpa using hf2
  have n2 : ¬ fn.body = none := by intro h; simp [h] at hf3
  refine ⟨w.heap.size + 1, [{ target := .collected w.heap.size, args := #[] }], w2, { target := .fn (.func gf) ys, args := xs ++ #[.func (.yield (w.heap.size + 1)) #[] #[]] }, w2, gf,
    xs ++ #[.func (.yield (w.heap.size + 1)) #[] #[]] ++ ys, w2, run_enterLoop_outer _ _ _ _ _, ?_, fun _ _ => trivial, ?_, fun h => by simp [Wd, Fence.wide] at h, ?_⟩
  · simp only [resolve, e1]; simp [Deferred.ofValue, Act.eval]
  · simp [invoke, callFunc, hf1, n1, n2]
  · refine CallsIn.mono (F := Wd none) (hcall _ G2 w2 _ hlen' hsim) fun e w3 hq => ?_
    obtain ⟨v, r, σ', G', rfl, hR, hs', hv⟩ := hq
    obtain ⟨_, b2, b3⟩ := hs2.back hs' hv
    obtain ⟨st, pend, hi, hne, hrest⟩ := hback r σ' hR
    have hb := b2.sto _ _ hi
    have hbs : (G'.bs σ.length).b = w.heap.size + 1 := (congrArg Bx.b (hv.bs σ.length (by simp))).trans hbs2
    simp only [als, hbs] at hb
    have hend := run_endLoop (P := P) hb.2.1 hne
    obtain ⟨s1, v1⟩ := b2.setLoop hi .exhausted pend
    rw [hbs] at s1 v1
    have hilt := (List.getElem?_eq_some_iff.1 hi).1
    have s2 := s1.toGone (i := σ.length) (by rw [List.getElem?_set_self hilt])
    rw [List.set_set] at s2
    have hv4 := ((hv1.trans hv2).trans b3).trans v1
    refine ⟨_, _, hend, ?_⟩
    cases pend with
    | none => exact ⟨G', env, _, hrest, s2, hv4⟩
    | some c => exact wpIn_mono (hrest.go F G' _ _ s2) fun _ _ _ q => q.evol hv4
end
end Go.Proofs.Ytbpjaiemlkcccaa.Pv
end
section
/- Boxes that hold slices of one's own: taken out, laid in. -/
namespace Go.Proofs.Ytbpjaiemlkcccaa.Pv
open Go
theorem ari {p : PV} (h : p.isOwn = true) : p.one = true := by
  cases p <;> first | rfl | cases h
theorem am3 {p : PV} (h : p.isOwn = true) (k : Nat) : p.lt k := by
  cases p <;> first | trivial | cases h
theorem atx (p : PV) (k : Nat) : (y8 p).lt k := by
  unfold y8; split <;> trivial
section
variable {n m : Nat} {F : Fr} {G : Gh} {env : Env} {σ : Sto} {a : Act} {w : World}
theorem Wk.repO {p p' : PV} (h : Wk p' p) {v : Value} (hr : RepO G w v p) : RepO G w v p' := by
  rcases h with rfl | rfl | ⟨sz, es, rfl, rfl⟩
  · exact .dead _
  · exact hr
  · cases hr with
    | sh h => cases h with | pl h => cases h
    | ow a cap sz es h ho => exact .sh (.pl h)
theorem ae2 {p : PV} (h : p.isOwn = true) (v : Value) : ownB v (y8 p) = none := by
  have := aj1 h v 0
  unfold o8 at this
  cases p with
  | sl o sz es => cases o <;> first | (cases h; done) | (simp only [y8] at this ⊢; simpa using this) | exact aaf _
  | _ => cases h
theorem Sim.takeCell (h : Sim n m F G env σ a w) {i off : Nat} {cs : List PV} {p : PV} (hi : σ[i]? = some (.cells cs)) (hp : cs[off]? = some p) (ho : p.isOwn = true) :
    Sim n m F G env (σ.set i (.cells (cs.set off (y8 p)))) a w ∧ ∃ v, w.cell? ⟨G.bs i, off, none⟩ = some v ∧ RepO G w v p ∧
      ∀ b, ownB v p = some b → ¬ F b ∧ ∀ l, nz G env (σ.set i (.cells (cs.set off (y8 p)))) a.tmps w l ≠ some b := by
  obtain ⟨hK, hsp, hcell⟩ := h.sto i _ hi
  have hst := h.stolt i _ hi
  simp only [Ent.lt] at hst
  have hol : off < cs.length := (List.getElem?_eq_some_iff.1 hp).1
  have hget : ∀ j c, (cs.set off (y8 p))[j]? = some c → (j = off ∧ c = y8 p) ∨ (j ≠ off ∧ cs[j]? = some c) := by
    intro j c hc
    rw [List.getElem?_set] at hc
    split at hc
    · rename_i e; first | (rw [if_pos hol] at hc; cases hc; exact .inl ⟨e.symm, rfl⟩) | (cases hc; exact .inl ⟨e.symm, rfl⟩)
    · rename_i e; exact .inr ⟨fun e2 => e e2.symm, hc⟩
  have s1 := h.boxSet (cs' := cs.set off (y8 p)) hi (w' := w) rfl (fun _ _ => rfl) (by rw [List.length_set]; exact hsp) (by
      rw [mo]; intro c hc
      obtain ⟨j, hj, rfl⟩ := List.getElem_of_mem hc
      rcases hget j _ (List.getElem?_eq_getElem hj) with ⟨_, e⟩ | ⟨_, e⟩
      · rw [e]; exact atx _ _
      · exact mo.1 hst _ (List.mem_of_getElem? e)) (fun j c hc => by
      rcases hget j c hc with ⟨rfl, rfl⟩ | ⟨_, e⟩
      · obtain ⟨v, h1, h2⟩ := hcell j p hp; exact ⟨v, h1, (ams ho).repO h2⟩
      · exact hcell j c e) (fun j v c b hv hc hb => by
      rcases hget j c hc with ⟨rfl, rfl⟩ | ⟨_, e⟩
      · rw [ae2 ho] at hb; cases hb
      · have := uf (env := env) (a := a) hi e hv hb
        exact ⟨h.fr _ b this, fun l' hl' => h.uniq _ _ b hl' this⟩) (fun j j' v c v' c' b hv hc hb hv' hc' hb' => by
      rcases hget j c hc with ⟨rfl, rfl⟩ | ⟨_, e⟩
      · rw [ae2 ho] at hb; cases hb
      · rcases hget j' c' hc' with ⟨rfl, rfl⟩ | ⟨_, e'⟩
        · rw [ae2 ho] at hb'; cases hb'
        · have := h.uniq _ _ b (uf (env := env) (a := a) hi e hv hb) (uf (env := env) (a := a) hi e' hv' hb')
          cases this; rfl)
  obtain ⟨v, hv, hr⟩ := hcell off p hp
  refine ⟨s1, v, hv, hr, fun b hb => ?_⟩
  have h0 := uf (env := env) (a := a) hi hp hv hb
  refine ⟨h.fr _ b h0, fun l' hl => ?_⟩
  have hil : i < σ.length := (List.getElem?_eq_some_iff.1 hi).1
  have h1 : nz G env σ a.tmps w l' = some b ∧ l' ≠ .cell i off := by
    cases l' with
    | slot t j => exact ⟨hl, fun e => by cases e⟩
    | cell k j =>
      simp only [nz] at hl ⊢
      by_cases e : k = i
      · subst e
        rw [List.getElem?_set_self hil] at hl
        simp only [hi]
        simp only at hl
        split at hl
        · rename_i c v' hc hv'
          rcases hget j c hc with ⟨rfl, rfl⟩ | ⟨hj, e⟩
          · rw [ae2 ho] at hl; cases hl
          · rw [e, hv']; exact ⟨hl, fun e' => hj (by cases e'; rfl)⟩
        · cases hl
      · rw [List.getElem?_set_ne (Ne.symm e)] at hl; exact ⟨hl, fun e' => e (by cases e'; rfl)⟩
  exact h1.2 (h.uniq _ _ b h1.1 h0)
end
section
variable {P : Program} {l : Option Nat} {tt : TT} {n m : Nat} {all : Array Oper} {rest : List Oper} {env : Env} {σ : Sto} {Q : Post} {d : Nat} {ty : TypeId} {pos : String} {after : Array Edge}
theorem atn (ht : oq P tt) {t : TypeId} {x : Operand} {i off : Nat} {ti : TI} {cs : List PV} {p : PV} (hx : opv tt env t x = .ptr i off) (hti : tl tt t = some ti) (hnd : ai7 ti.desc = false)
    (hi : σ[i]? = some (.cells cs)) (hp : cs[off]? = some p) (ho : p.isOwn = true) (hd : d < n) (h : SatOps P l n m all rest ((d, p) :: env) (σ.set i (.cells (cs.set off (y8 p)))) Q) :
    SatOps P l n m all (⟨some d, .load t x, ty, pos, after, none⟩ :: rest) env σ Q := by
  refine ym rfl (by simp) fun F G a w hs => ?_
  have hxo := o7 hs tt t x
  rw [hx] at hxo
  have ev := (hxo.toS rfl).ptrv
  have hT := ht _ _ hti
  obtain ⟨s1, v, hv, hr, hO⟩ := hs.takeCell hi hp ho
  refine ⟨v, w, G, _, _, .inl (by simp [execOp, ev, Instr.loadAt, Instr.sureAddr, loadVar, hT.ragg w, hnd, run_load, hv]), s1.set hd (.one hr) (am3 ho _) (fun j b hb => ?_) (fun j1 j2 b hb1 hb2 => ?_), .refl _ _ _ _, h⟩
  · rw [adx ho] at hb
    split at hb
    · exact ⟨(hO b hb).1, fun l hl => absurd hl ((hO b hb).2 l)⟩
    · cases hb
  · rw [adx ho] at hb1 hb2
    split at hb1
    · split at hb2
      · omega
      · cases hb2
    · cases hb1
theorem aq7 (ht : oq P tt) {t : TypeId} {x : Operand} {u : Nat} {i off : Nat} {ti : TI} {cs : List PV} {p : PV} (hx : opv tt env t x = .ptr i off) (hti : tl tt t = some ti) (hsz : ti.size = 1)
    (hi : σ[i]? = some (.cells cs)) (hp : look env u = p) (ho : p.isOwn = true) (hoff : off < cs.length) (hux : x ≠ .tmp u)
    (h : SatOps P l n m all rest ((u, y8 p) :: env) (σ.set i (.cells (cs.set off p))) Q) : SatOps P l n m all (⟨none, .store t x (.tmp u), ty, pos, after, none⟩ :: rest) env σ Q := by
  refine ym rfl (by simp) fun F G a w hs => ?_
  have hxo := o7 hs tt t x
  rw [hx] at hxo
  have ev := (hxo.toS rfl).ptrv
  have hT := ht _ _ hti
  obtain ⟨s1, hr, hO⟩ := hs.take hp ho
  obtain ⟨hK, hsp, hcell⟩ := s1.sto i _ hi
  have hst := s1.stolt i _ hi
  simp only [Ent.lt] at hst
  obtain ⟨⟨arr, T, fz, a1, a2, a3⟩, hshB, hnfB⟩ := hsp
  obtain ⟨v, hvdef⟩ : ∃ v, v = a.tmps.getD u undef := ⟨_, rfl⟩
  have hva : a.eval (.tmp u) = v := by rw [hvdef]; rfl
  rw [← hvdef] at hr hO
  obtain ⟨o1, o2, o3⟩ := RepO.one hr (ari ho)
  have hthere : ∀ j, j < cs.length → (w.cell? ⟨G.bs i, j, none⟩).isSome = true := fun j hj => by
    obtain ⟨v, hv, _⟩ := hcell j cs[j] (by simp [hj])
    rw [hv]; rfl
  have hrun := run_storeCells_cells (P := P) (G.bs i) off [v] 0 w (fun j hj => by simp at hj; rw [Nat.add_zero]; exact hthere _ (by omega)) (fun j hj => by simp at hj; rw [Nat.add_zero]; exact a3 _ (Nat.zero_le _) (by omega)) (fun v' hv => by
    simp at hv; subst hv; exact o1)
  rw [Nat.add_zero] at hrun
  have hget : ∀ j c, (cs.set off p)[j]? = some c → (j = off ∧ c = p) ∨ (j ≠ off ∧ cs[j]? = some c) := by
    intro j c hc
    rw [List.getElem?_set] at hc
    split at hc
    · rename_i e; first | (rw [if_pos hoff] at hc; cases hc; exact .inl ⟨e.symm, rfl⟩) | (cases hc; exact .inl ⟨e.symm, rfl⟩)
    · rename_i e; exact .inr ⟨fun e2 => e e2.symm, hc⟩
  have hcat : (w.setCells (G.bs i) off [v]).cell? ⟨G.bs i, off, none⟩ = some v := by
    have := World.cell?_setCells_in (G.bs i) [v] off w (fun j hj => by simp at hj; exact hthere _ (by omega)) 0 (by simp)
    simpa using this
  have hcout : ∀ j, j ≠ off → (w.setCells (G.bs i) off [v]).cell? ⟨G.bs i, j, none⟩ = w.cell? ⟨G.bs i, j, none⟩ := fun j hj => World.cell?_setCells_out _ _ _ _ _ (fun _ _ => by simp only [List.length_cons, List.length_nil]; omega)
  obtain ⟨q1, q2, q3, q4⟩ := aef (G.bs i) [v] off w
  have hfin := s1.boxSet (cs' := cs.set off p) hi q1 (fun b hb => zb _ _ _ _ _ hb) (af7 ⟨⟨arr, T, fz, a1, by rw [List.length_set]; exact a2, fun j hj hk => a3 j hj (by rw [List.length_set] at hk; exact hk)⟩, hshB, hnfB⟩ _ _ _) (by
      rw [mo]; intro c hc
      obtain ⟨j, hj, rfl⟩ := List.getElem_of_mem hc
      rcases hget j _ (List.getElem?_eq_getElem hj) with ⟨_, e⟩ | ⟨_, e⟩
      · rw [e]; exact am3 ho _
      · exact mo.1 hst _ (List.mem_of_getElem? e)) (fun j c hc => by
      rcases hget j c hc with ⟨rfl, rfl⟩ | ⟨hj, e⟩
      · exact ⟨v, hcat, hr⟩
      · obtain ⟨v', h1, h2⟩ := hcell j c e; exact ⟨v', (hcout j hj).trans h1, h2⟩) (fun j v' c b hv hc hb => by
      rcases hget j c hc with ⟨rfl, rfl⟩ | ⟨hj, e⟩
      · rw [hcat] at hv; cases hv
        exact ⟨(hO b hb).1, fun l' hl' => absurd hl' ((hO b hb).2 l')⟩
      · rw [hcout j hj] at hv
        have := uf (env := (u, y8 p) :: env) (a := a) hi e hv hb
        exact ⟨s1.fr _ b this, fun l' hl' => s1.uniq _ _ b hl' this⟩) (fun j j' v1 c v1' c' b hv hc hb hv' hc' hb' => by
      rcases hget j c hc with ⟨rfl, rfl⟩ | ⟨hj, e⟩
      · rw [hcat] at hv; cases hv
        rcases hget j' c' hc' with ⟨rfl, rfl⟩ | ⟨hj', e'⟩
        · rfl
        · rw [hcout j' hj'] at hv'
          exact absurd (uf (env := (u, y8 c) :: env) (a := a) hi e' hv' hb') ((hO b hb).2 _)
      · rw [hcout j hj] at hv
        rcases hget j' c' hc' with ⟨rfl, rfl⟩ | ⟨hj', e'⟩
        · rw [hcat] at hv'; cases hv'
          exact absurd (uf (env := (u, y8 c') :: env) (a := a) hi e hv hb) ((hO b hb').2 _)
        · rw [hcout j' hj'] at hv'
          have := s1.uniq _ _ b (uf (env := (u, y8 p) :: env) (a := a) hi e hv hb) (uf (env := (u, y8 p) :: env) (a := a) hi e' hv' hb')
          cases this; rfl)
  refine ⟨undef, _, G, _, _, .inr ⟨?_, rfl⟩, hfin, Evol.boxSet s1 hi off _, h⟩
  have o3' : (a.eval (.tmp u)).cells = #[v] := by rw [hva]; exact o3
  have hl : (a.eval (.tmp u)).cells.toList = [v] := by rw [o3']
  simp [execOp, ev, Instr.storeAt, Instr.sureAddr, storeVar, hT.rsize w, hsz, o3', hrun]
end
end Go.Proofs.Ytbpjaiemlkcccaa.Pv
end
section
/- A region that draws its order: operations that only look. -/
namespace Go.Proofs.Ytbpjaiemlkcccaa.Pv
open Go
structure LookAt (P : Program) (n m : Nat) (env : Env) (σ : Sto) (o : Oper) (p : PV) : Prop where
  go : ∀ F G a w, Sim n m F G env σ a w → ∃ v, (execOp a.eval o).run P w = .ok (.value v) w ∧ adk G w v p ∧ p.lt σ.length
theorem LookAt.of {P : Program} {n m : Nat} {env : Env} {σ : Sto} {o : Oper} {r : Option (Prop × PV)} {c : Prop} {p : PV} (hl : ∀ F G a w, Sim n m F G env σ a w → Looks P G σ w (execOp a.eval o) r)
    (hr : r = some (c, p)) (hc : c) : LookAt P n m env σ o p := ⟨fun F G a w hs => hl F G a w hs c p hr hc⟩
inductive StepAt (P : Program) (n m : Nat) (all : Array Oper) (env : Env) (σ : Sto) : Oper → PV → Prop
  | free {o : Oper} {p : PV} (hg : o.guard = none) (h : LookAt P n m env σ o p) : StepAt P n m all env σ o p
  | yes {o : Oper} {p : PV} {j t : Nat} {want b : Bool} (hg : o.guard = some (j, want)) (hj : (all[j]?).bind (·.dst) = some t) (hb : look env t = .bool b) (hw : b = want) (h : LookAt P n m env σ o p) : StepAt P n m all env σ o p
  | no {o : Oper} {j t : Nat} {want b : Bool} (hg : o.guard = some (j, want)) (hj : (all[j]?).bind (·.dst) = some t) (hb : look env t = .bool b) (hw : b = !want) : StepAt P n m all env σ o .dead
def yj (env : Env) (ts : List Nat) : Env := ts.map fun t => (t, look env t)
theorem aka (env : Env) (t : Nat) : ∀ ts : List Nat, (t ∈ ts ∧ look (yj env ts) t = look env t) ∨ look (yj env ts) t = .dead
  | [] => .inr rfl
  | u :: r => by
    show (t ∈ u :: r ∧ look ((u, look env u) :: yj env r) t = look env t) ∨ look ((u, look env u) :: yj env r) t = .dead
    rw [qg]
    by_cases e : t = u
    · subst e; rw [if_pos rfl]; exact .inl ⟨List.mem_cons_self, rfl⟩
    · rw [if_neg e]
      rcases aka env t r with ⟨h1, h2⟩ | h
      · exact .inl ⟨List.mem_cons_of_mem _ h1, h2⟩
      · exact .inr h
def Operand.tmp1 : Operand → List Nat
  | .tmp t => [t]
  | _ => []
def readsOf (all : Array Oper) (o : Oper) : List Nat :=
  (o.op.operands.toList.flatMap Operand.tmp1) ++ (match o.guard with | some (j, _) => ((all[j]?).bind (·.dst)).toList | none => [])
def akr (P : Program) (n m : Nat) (all : Array Oper) (σ : Sto) : Env → List Oper → List PV → Prop
  | _, [], [] => True
  | env, o :: os, p :: ps => (∃ d, o.dst = some d ∧ Nat.ble (d + 1) n = true ∧ StepAt P n m all (yj env (readsOf all o)) σ o p ∧ akr P n m all σ ((d, p) :: env) os ps)
  | _, _, _ => False
def yx : Env → List Oper → List PV → Env
  | env, o :: os, p :: ps => yx ((o.dst.getD 1000000, p) :: env) os ps
  | env, _, _ => env
def ace (o : Oper) (j : Nat) : Bool := o.after.any fun e => Region.binds .any e && Nat.beq e.on j
def agl : Op → Bool
  | .defer _ => true
  | _ => false
section
variable {P : Program} {l : Option Nat} {n m : Nat} {σ : Sto} {Q : Post}
theorem acl : ∀ (ops : List Oper) (ps : List PV) (env : Env) (t : Nat), ps.length = ops.length →
    ((∀ (i : Nat) (o : Oper), ops[i]? = some o → o.dst.getD 1000000 ≠ t) → look (yx env ops ps) t = look env t) ∧
    ∀ (i : Nat) (o : Oper), ops[i]? = some o → o.dst.getD 1000000 = t → (∀ (j : Nat) (o' : Oper), ops[j]? = some o' → o'.dst.getD 1000000 = t → j = i) → look (yx env ops ps) t = (ps[i]?).getD .dead
  | [], _, _, _, _ => ⟨fun _ => by unfold yx; rfl, fun i o h => by simp at h⟩
  | o :: os, p :: ps, env, t, hl => by
    obtain ⟨k1, k2⟩ := acl os ps ((o.dst.getD 1000000, p) :: env) t (by simpa using hl)
    refine ⟨fun h => ?_, fun i o' hi ht hu => ?_⟩
    · show look (yx ((o.dst.getD 1000000, p) :: env) os ps) t = _
      rw [k1 fun i o' hi => h (i + 1) o' (by simpa using hi), qg, if_neg (Ne.symm (h 0 o rfl))]
    · show look (yx ((o.dst.getD 1000000, p) :: env) os ps) t = _
      cases i with
      | zero =>
        simp at hi; subst hi
        rw [k1 fun j o' hj e => by have := hu (j + 1) o' (by simpa using hj) e; omega, qg, if_pos ht.symm]
        rfl
      | succ i =>
        simp at hi
        rw [k2 i o' hi ht fun j o'' hj e => by have := hu (j + 1) o'' (by simpa using hj) e; omega]
        simp
  | _ :: _, [], _, _, hl => by simp at hl
theorem ut {k : Nat} {p : Nat → Bool} (h : (List.range k).all p = true) {i : Nat} (hi : i < k) : p i = true := List.all_eq_true.1 h i (List.mem_range.2 hi)
structure DrawFacts (ops : List Oper) (i : Nat) (o : Oper) : Prop where
  dst : ∃ d, o.dst = some d
  nd : ∀ c, o.op ≠ .defer c
  back : ∀ e ∈ o.after.toList, e.on < i
  one : ∀ j o', ops[j]? = some o' → o.dst.getD 1000000 = o'.dst.getD 1000000 → i = j
  reads : ∀ t ∈ readsOf ops.toArray o, ∀ j o', ops[j]? = some o' → o'.dst.getD 1000000 = t → (j < i ∧ ace o j = true) ∨ (i < j ∧ ace o' i = true)
theorem mem_ready {ops : List Oper} {listed : Array Bool} {i : Nat} : i ∈ Region.ready .any ops.toArray listed ↔ ∃ o, ops[i]? = some o ∧ listed.getD i true = false ∧ ∀ e ∈ o.after.toList, Region.binds .any e = true → listed.getD e.on false = true := by
  simp only [Region.ready, List.mem_filter, List.mem_range, List.size_toArray, List.getElem?_toArray, Bool.and_eq_true, Bool.not_eq_true']
  constructor
  · rintro ⟨h1, h2, h3⟩
    cases ho : ops[i]? with
    | none => rw [ho] at h3; cases h3
    | some o =>
      rw [ho] at h3
      refine ⟨o, rfl, h2, fun e he hb => ?_⟩
      simp only [Option.map_some, Option.getD_some] at h3
      have := Array.all_eq_true_iff_forall_mem.1 h3 e (by simpa using he)
      simpa [hb] using this
  · rintro ⟨o, ho, h2, h3⟩
    refine ⟨(List.getElem?_eq_some_iff.1 ho).1, h2, ?_⟩
    rw [ho]
    simp only [Option.map_some, Option.getD_some]
    refine Array.all_eq_true_iff_forall_mem.2 fun e he => ?_
    cases hb : Region.binds .any e with
    | false => rfl
    | true => simpa using h3 e (by simpa using he) hb
theorem afz {o : Oper} {j : Nat} (h : ace o j = true) : ∃ e ∈ o.after.toList, Region.binds .any e = true ∧ e.on = j := by
  unfold ace at h
  rw [← Array.any_toList, List.any_eq_true] at h
  obtain ⟨e, h1, h2⟩ := h
  simp only [Bool.and_eq_true] at h2
  exact ⟨e, h1, h2.1, Nat.eq_of_beq_eq_true h2.2⟩
theorem avc {all : Array Oper} {F : Fr} {G : Gh} {a : Act} {w : World} {env : Env} {i : Nat} {o : Oper} {p : PV} {d : Nat} {Q' : Exit → Act → World → Prop} {K : Act → World → Prop} (hs : Sim n m F G env σ a w) (hi : all[i]? = some o) (hd : o.dst = some d) (hdn : d < n)
    (hnd : ∀ c, o.op ≠ .defer c) {env1 : Env} (hw : ∀ t, look env1 t = .dead ∨ look env1 t = look env t) (hst : StepAt P n m all env1 σ o p) (hK : ∀ v, Sim n m F G ((d, p) :: env) σ (a.put (some d) v) w → K (a.put (some d) v) w) :
    wpOpIn (Wd l) 0 P all Q' i K a w := by
  have hs1 : Sim n m F G env1 σ a w := hs.weaken fun t => by rcases hw t with e | e <;> rw [e] <;> first | exact .inl rfl | exact .inr (.inl rfl)
  unfold Go.wpOpIn
  simp only [hi]
  have run : ∀ (hl : LookAt P n m env1 σ o p), Oper.wpIn (Wd l) 0 P o a w K Q' := by
    intro hl
    obtain ⟨v, h1, h2, h3⟩ := hl.go F G a w hs1
    refine upon_value hnd h1 ?_
    rw [hd]
    exact hK v (hs.setN hdn h2 h3)
  have yl : ∀ {j t : Nat} {b : Bool}, (all[j]?).bind (·.dst) = some t → look env1 t = .bool b → yielded all a.tmps j = some b := fun hj hb => ad5 hs1 hj hb
  cases hst with
  | free hg h => rw [if_pos (by simp [Region.wanted, hg])]; exact run h
  | yes hg hj hb hw' h => rw [if_pos (by simp [Region.wanted, hg, yl hj hb, hw'])]; exact run h
  | no hg hj hb hw' =>
    rw [if_neg (by simp [Region.wanted, hg, yl hj hb, hw'])]
    refine ⟨fun _ _ => trivial, ?_⟩
    rw [hd]
    exact hK undef (hs.setDead undef hdn)
end
end Go.Proofs.Ytbpjaiemlkcccaa.Pv
end
section
/- What operations that only look yield: for the regions that draw their order. -/
namespace Go.Proofs.Ytbpjaiemlkcccaa.Pv
open Go
section
variable {P : Program} {tt : TT} {n m : Nat} {env : Env} {σ : Sto} {d : Option Nat} {ty : TypeId} {pos : String} {after : Array Edge} {g : Option (Nat × Bool)} {c : Prop} {p : PV}
theorem LookAt.norm {op : Op} (h : LookAt P n m env σ ⟨some 0, op, ty, "", #[], none⟩ p) : LookAt P n m env σ ⟨d, op, ty, pos, after, g⟩ p := ⟨h.go⟩
theorem jf {x : Operand} (hp : opv tt env ty x = p) : LookAt P n m env σ ⟨d, .move x, ty, pos, after, g⟩ p :=
  LookAt.norm (LookAt.of (fun F G a w hs => alc (tt := tt) hs) (by rw [hp]) trivial)
theorem jm {x : Operand} (hp : opv tt env ty x = p) : LookAt P n m env σ ⟨d, .assign x, ty, pos, after, g⟩ p :=
  LookAt.norm (LookAt.of (fun F G a w hs => air (tt := tt) hs) (by rw [hp]) trivial)
theorem ek (ex : Bool) (ht : oq P tt) {op : BinOp} {xT yT : TypeId} {x y : Operand} (hp : aj3 ex tt op xT (opv tt env xT x) (opv tt env yT y) = some (c, p)) (hc : c) : LookAt P n m env σ ⟨d, .binOp op xT x y yT, ty, pos, after, g⟩ p :=
  LookAt.norm (LookAt.of (fun F G a w hs => ajy ht ex hs) hp hc)
theorem d9 (ex : Bool) (ht : oq P tt) {src dst : TypeId} {x : Operand} (hp : alm ex tt src dst (opv tt env src x) = some (c, p)) (hc : c) : LookAt P n m env σ ⟨d, .convert src dst x, ty, pos, after, g⟩ p :=
  LookAt.norm (LookAt.of (fun F G a w hs => ahp ht hs ex) hp hc)
theorem gp (ht : oq P tt) {sT : TypeId} {f : Nat} {x : Operand} (hp : ady tt sT f (opv tt env sT x) = some (c, p)) (hc : c) : LookAt P n m env σ ⟨d, .fieldAddr sT x f, ty, pos, after, g⟩ p :=
  LookAt.norm (LookAt.of (fun F G a w hs => aec ht hs) hp hc)
theorem j6 (ht : oq P tt) {t : TypeId} {x : Operand} (hp : alu tt t (opv tt env t x) = some (c, p)) (hc : c) : LookAt P n m env σ ⟨d, .load t x, ty, pos, after, g⟩ p :=
  LookAt.norm (LookAt.of (fun F G a w hs => akq ht hs) hp hc)
theorem mf (ht : oq P tt) {t : TypeId} {x : Operand} (hp : apu tt t (opv tt env t x) = some (c, p)) (hc : c) : LookAt P n m env σ ⟨d, .call ⟨.builtin .len, #[x], #[t]⟩, ty, pos, after, g⟩ p :=
  LookAt.norm (LookAt.of (fun F G a w hs => am6 ht hs) hp hc)
end
end Go.Proofs.Ytbpjaiemlkcccaa.Pv
end
section
/- More operations that only look: a box, a function value, a struct that is built. -/
namespace Go.Proofs.Ytbpjaiemlkcccaa.Pv
open Go
def apk (tt : TT) : List Field → Option (List (Nat × Nat))
  | [] => some []
  | f :: r => match tl tt f.type, apk tt r with
    | some i, some l => some ((f.offset, i.size) :: l)
    | _, _ => none
def ajo (tt : TT) (env : Env) (pl : List (Nat × Nat)) : List PV → List (Nat × Operand) → Option (List PV)
  | cs, [] => some cs
  | cs, (k, x) :: r => match pl[k]? with
    | some (off, sz) => (match (opv tt env 0 x).isS && (Nat.beq (opv tt env 0 x).cells.length sz && Nat.ble (off + sz) cs.length) with
      | true => ajo tt env pl (putAt cs off (opv tt env 0 x).cells) r
      | false => none)
    | none => none
def aqh (tt : TT) (env : Env) (t : TypeId) (parts : List (Nat × Operand)) : Option (Prop × PV) :=
  match tl tt t with
  | some ⟨.struct fs, _, _, z⟩ => (match apk tt fs.toList with
    | some pl => (match ajo tt env pl z parts with
      | some cs => some (True, .agg cs)
      | none => none)
    | none => none)
  | _ => none
section
variable {P : Program} {l : Option Nat} {tt : TT} {n m : Nat} {all : Array Oper} {rest : List Oper} {env : Env} {σ : Sto} {Q : Post} {d : Nat} {dd : Option Nat} {ty : TypeId} {pos : String} {after : Array Edge} {g : Option (Nat × Bool)} {c : Prop} {p : PV}
theorem aa {op : Op} (hl : LookAt P n m env σ ⟨some d, op, ty, pos, after, none⟩ p) (hnd : ∀ c, op ≠ .defer c) (hd : Nat.ble (d + 1) n = true) (h : SatOps P l n m all rest ((d, p) :: env) σ Q) :
    SatOps P l n m all (⟨some d, op, ty, pos, after, none⟩ :: rest) env σ Q := by
  refine ⟨fun F G a w hs => ?_⟩
  obtain ⟨v, h1, h2, h3⟩ := hl.go F G a w hs
  exact abk rfl (upon_value hnd h1 (h.go F G _ w (hs.setN (ltn hd) h2 h3)))
theorem jb (ht : oq P tt) {t : TypeId} {x : Operand} {i off : Nat} {ti : TI} {cs : List PV} (hx : opv tt env t x = .ptr i off) (hti : tl tt t = some ti)
    (hi : σ[i]? = some (.cells cs)) (hl : ag5 ti cs off = some (c, p)) (hc : c) : LookAt P n m env σ ⟨dd, .load t x, ty, pos, after, g⟩ p := by
  refine ⟨fun F G a w hs => ?_⟩
  have hxo := o7 hs tt t x
  rw [hx] at hxo
  have ev := (hxo.toS rfl).ptrv
  obtain ⟨v, h1, h2, h3⟩ := amt (P := P) ht hs hti hi hl hc
  exact ⟨v, by simp [execOp, ev, Instr.loadAt, Instr.sureAddr, h1], .inr (.inl h2), h3⟩
theorem anm {F : Fr} {G : Gh} {a : Act} {w : World} (hs : Sim n m F G env σ a w) : ∀ (xs : List Operand), ((xs.map (opv tt env 0)).all PV.isS) = true →
    (∀ (j : Nat) v c, (xs.map a.eval)[j]? = some v → (xs.map (opv tt env 0))[j]? = some c → RepS G w v c) ∧ o6 σ.length (xs.map (opv tt env 0))
  | [], _ => ⟨fun j v c h => by simp at h, trivial⟩
  | x :: xs, h => by
    simp only [List.map_cons, List.all_cons, Bool.and_eq_true] at h
    obtain ⟨h1, h2⟩ := anm hs xs h.2
    refine ⟨fun j v c hv hc => ?_, yf hs tt 0 x, h2⟩
    cases j with
    | zero => simp at hv hc; subst hv; subst hc; exact (o7 hs tt 0 x).toS h.1
    | succ j => simp at hv hc; exact h1 j v c (by simpa using hv) (by simpa using hc)
theorem dx {f : Fn} {first cap : Array Operand} (h1 : ((first.toList.map (opv tt env 0)).all PV.isS) = true) (h2 : ((cap.toList.map (opv tt env 0)).all PV.isS) = true)
    (hp : PV.fn f (first.toList.map (opv tt env 0)) (cap.toList.map (opv tt env 0)) = p) : LookAt P n m env σ ⟨dd, .makeFunc f first cap, ty, pos, after, g⟩ p := by
  refine ⟨fun F G a w hs => ?_⟩
  subst hp
  obtain ⟨k1, k2⟩ := anm hs first.toList h1
  obtain ⟨k3, k4⟩ := anm hs cap.toList h2
  refine ⟨.func f (first.map a.eval) (cap.map a.eval), by simp [execOp, Instr.makeFunc], .inr (.inl (.fn _ _ _ _ _ (by simp) (by simp) (fun j v c hv hc => ?_) (fun j v c hv hc => ?_))), k2, k4⟩
  · exact k1 j v c (by rw [← Array.getElem?_toList] at hv; simpa using hv) hc
  · exact k3 j v c (by rw [← Array.getElem?_toList] at hv; simpa using hv) hc
theorem aov {F : Fr} {G : Gh} {a : Act} {w : World} (hs : Sim n m F G env σ a w) (pl : List (Nat × Nat)) (place : Nat → Option (Nat × Nat)) (hpl : ∀ k, place k = pl[k]?) :
    ∀ (parts : List (Nat × Operand)) (cs cs' : List PV) (arr : Array Value), ajo tt env pl cs parts = some cs' → arr.size = cs.length → (∀ (j : Nat) v c, arr[j]? = some v → cs[j]? = some c → RepS G w v c) → o6 σ.length cs →
      ∃ arr', Instr.fill place arr (parts.map fun x => (x.1, a.eval x.2)) = some arr' ∧ arr'.size = cs'.length ∧ (∀ (j : Nat) v c, arr'[j]? = some v → cs'[j]? = some c → RepS G w v c) ∧ o6 σ.length cs'
  | [], cs, cs', arr, h, hl, hr, hlt => by cases h; exact ⟨arr, rfl, hl, hr, hlt⟩
  | (k, x) :: r, cs, cs', arr, h, hl, hr, hlt => by
    simp only [ajo] at h
    split at h
    · rename_i off sz hk
      split at h
      · rename_i hb
        simp only [Bool.and_eq_true] at hb
        obtain ⟨b1, b2, b3⟩ := hb
        have b2 := Nat.eq_of_beq_eq_true b2
        have b3 := nlb b3
        have hx := (o7 hs tt 0 x).toS b1
        have hxl := yf hs tt 0 x
        obtain ⟨c1, c2⟩ := ad7 hx
        obtain ⟨f1, f2⟩ := foldl_set (a.eval x).cells.toList off 0 arr (by simp; omega)
        have hz : (a.eval x).cells.zipIdx.foldl (fun cs (x : Value × Nat) => cs.setIfInBounds (off + x.2) x.1) arr = ((a.eval x).cells.toList.zipIdx 0).foldl (fun cs (x : Value × Nat) => cs.setIfInBounds (off + x.2) x.1) arr := by
          rw [← Array.foldl_toList, Array.toList_zipIdx]
        obtain ⟨q1, q2⟩ := aax cs off (opv tt env 0 x).cells (by omega)
        rw [← hz] at f1 f2
        obtain ⟨arr', g1, g2, g3, g4⟩ := aov hs pl place hpl r _ cs' ((a.eval x).cells.zipIdx.foldl (fun cs (x : Value × Nat) => cs.setIfInBounds (off + x.2) x.1) arr) h (by rw [f1, q1, hl]) (fun j v c hv hc => by
            rw [f2] at hv
            rw [q2] at hc
            simp only [Nat.add_zero, Array.length_toList] at hv
            by_cases e : off ≤ j ∧ j < off + (opv tt env 0 x).cells.length
            · rw [if_pos e] at hc
              rw [if_pos (by omega)] at hv
              exact c2 (j - off) v c (by simpa using hv) hc
            · rw [if_neg e] at hc
              rw [if_neg (by omega)] at hv
              exact hr j v c hv hc) (by
            rw [mo]; intro c hc
            obtain ⟨j, hj, rfl⟩ := List.getElem_of_mem hc
            have hc' := q2 j
            rw [List.getElem?_eq_getElem hj] at hc'
            split at hc'
            · exact mo.1 (cells_lt hxl) _ (List.mem_of_getElem? hc'.symm)
            · exact mo.1 hlt _ (List.mem_of_getElem? hc'.symm))
        refine ⟨arr', ?_, g2, g3, g4⟩
        simp only [List.map_cons, Instr.fill, hpl, hk]
        rw [if_neg]
        · exact g1
        · simp only [Bool.or_eq_true, bne_iff_ne, ne_eq, decide_eq_true_eq, not_or, Decidable.not_not]
          omega
      · cases h
    · cases h
theorem aoo (ht : oq P tt) (w : World) : ∀ (fs : List Field) (pl : List (Nat × Nat)), apk tt fs = some pl → (fs.mapM fun f => (do pure (f.offset, ← sizeOf f.type) : Sem (Nat × Nat))).run P w = .ok pl w
  | [], pl, h => by cases h; rfl
  | f :: r, pl, h => by
    simp only [apk] at h
    split at h
    · rename_i i l hi hl
      cases h
      have h1 := (ht _ _ hi).rsize w
      have h2 := aoo ht w r l hl
      simp only [List.mapM_cons, Sem.run_bind, h1, Result.andThen_ok, Sem.run_pure]
      rw [h2]
      rfl
    · cases h
theorem awc {P : Program} {t : Nat} {i : TI} (h : TyOK P t i) (hS : i.zero.all PV.isS = true) (G : Gh) (w : World) : ∃ z, (zeroValue t).run P w = .ok z w ∧ z.cells.size = i.zero.length ∧ ∀ (j : Nat) v c, z.cells[j]? = some v → i.zero[j]? = some c → RepS G w v c := by
  obtain ⟨z, h1, h2⟩ := h.rzero w
  refine ⟨z, h1, ?_⟩
  have key : ∀ (vs : List Value) (ps : List PV), zcs vs ps = true → ps.all PV.isS = true → vs.length = ps.length ∧ ∀ (j : Nat) v c, vs[j]? = some v → ps[j]? = some c → RepS G w v c := by
    intro vs
    induction vs with
    | nil => intro ps h _; cases ps with
      | nil => exact ⟨rfl, fun j v c h => by simp at h⟩
      | cons => cases h
    | cons v r ih =>
      intro ps h hS
      cases ps with
      | nil => cases h
      | cons p q =>
        simp only [zcs, Bool.and_eq_true] at h
        simp only [List.all_cons, Bool.and_eq_true] at hS
        obtain ⟨e1, e2⟩ := ih q h.2 hS.2
        refine ⟨by simp [e1], fun j v' c hv hc => ?_⟩
        cases j with
        | zero =>
          simp at hv hc
          subst hv; subst hc
          have h0 := h.1
          unfold zc1 at h0
          split at h0 <;> first | exact .pl (.bool _) | exact .pl .nilfn | exact .pl .nilif | exact .pl .nilptr | exact .pl (.nils _) | exact .pl (.sl0 _ _ _) | skip
          · simp only [Bool.and_eq_true, beq_iff_eq] at h0; rw [h0.1, h0.2]; exact .pl (.int _ _)
          · rename_i s s'
            simp only [Bool.and_eq_true, beq_iff_eq] at h0
            have e : s = s' := by
              have a1 : s.data = #[] := Array.eq_empty_of_size_eq_zero h0.1
              have a2 : s'.data = #[] := Array.eq_empty_of_size_eq_zero h0.2
              cases s; cases s'; simp only at a1 a2; rw [a1, a2]
            subst e; exact .pl (.str _)
          · have := hS.1; cases this
          · cases h0
        | succ j => simp at hv hc; exact e2 j v' c hv hc
  obtain ⟨k1, k2⟩ := key z.cells.toList i.zero h2 hS
  exact ⟨by simpa using k1, fun j v c hv hc => k2 j v c (by simpa using hv) hc⟩
theorem avz {P : Program} {t : Nat} {i : TI} (h : TyOK P t i) (k : Nat) : o6 k i.zero := by
  obtain ⟨info, z, _, _, _, _, h5⟩ := h.inf
  have key : ∀ (vs : List Value) (ps : List PV), zcs vs ps = true → o6 k ps := by
    intro vs
    induction vs with
    | nil => intro ps h; cases ps with
      | nil => trivial
      | cons => cases h
    | cons v r ih =>
      intro ps h
      cases ps with
      | nil => cases h
      | cons p q =>
        simp only [zcs, Bool.and_eq_true] at h
        refine ⟨?_, ih q h.2⟩
        have h0 := h.1
        unfold zc1 at h0
        split at h0 <;> first | trivial | cases h0
  exact key _ _ h5
theorem gy (ht : oq P tt) {t : TypeId} {parts : Array (Nat × Operand)} (hz : (match tl tt t with | some i => i.zero.all PV.isS | none => false) = true) (hp : aqh tt env t parts.toList = some (c, p)) : LookAt P n m env σ ⟨dd, .build t parts, ty, pos, after, g⟩ p := by
  refine ⟨fun F G a w hs => ?_⟩
  unfold aqh at hp
  split at hp
  · rename_i fs sz by_ z hT
    split at hp
    · rename_i pl hpl
      split at hp
      · rename_i cs hcs
        cases hp
        have hT' := ht _ _ hT
        rw [hT] at hz
        obtain ⟨zv, z1, z2, z3⟩ := awc hT' hz G w
        obtain ⟨arr', g1, g2, g3, g4⟩ := aov hs pl (fun k => pl.toArray[k]?) (fun k => by simp) parts.toList z cs zv.cells hcs z2 z3 (avz hT' _)
        refine ⟨.agg arr', ?_, .inr (.inl (.agg _ _ g2 g3)), g4⟩
        have hrun := aoo ht w fs.toList pl hpl
        have hm : (fs.mapM fun f => (do pure (f.offset, ← sizeOf f.type) : Sem (Nat × Nat))).run P w = .ok pl.toArray w := by
          rw [Array.mapM_eq_mapM_toList]
          simp only [Sem.run_bind, Sem.run_map]
          rw [hrun]; rfl
        have e1 : (parts.map fun x => (x.1, a.eval x.2)).toList = parts.toList.map fun x => (x.1, a.eval x.2) := by simp
        simp only [execOp, Instr.build, Sem.run_bind, z1, Result.andThen_ok, hT'.rund w, hm, e1]
        rw [g1]
        rfl
      · cases hp
    · cases hp
  · cases hp
end
end Go.Proofs.Ytbpjaiemlkcccaa.Pv
end
section
/- What comes in: a reading of plain data is a plain value; the call of a law, from its contract. -/
namespace Go.Proofs.Ytbpjaiemlkcccaa.Pv
open Go
inductive Shp where
  | bool
  | int (k : IntKind)
  | str
  | sl (sz : Nat) (e : Shp)
  | struct (fs : List Shp)
def mkV : Shp → List PV → PV
  | .struct _, cs => .agg cs
  | _, c :: _ => c
  | _, [] => .dead
mutual
def abl : Shp → List PV → Prop
  | .bool, cs => ∃ b, cs = [.bool b]
  | .int k, cs => ∃ n, (Lit.int k n).wf = true ∧ cs = [.int k n]
  | .str, cs => ∃ s : ByteArray, s.size ≤ maxLen ∧ cs = [.str s]
  | .sl sz e, cs => ∃ es : List PV, cs = [.sl .sh sz es] ∧ es.length ≤ maxLen ∧ ∀ x ∈ es, ∃ c, x = mkV e c ∧ abl e c
  | .struct fs, cs => apf fs cs
def apf : List Shp → List PV → Prop
  | [], cs => cs = []
  | f :: r, cs => ∃ a b, cs = a ++ b ∧ abl f a ∧ apf r b
end
mutual
def adw (P : Program) : Shp → TypeId → Bool
  | .bool, t => match P.underlying t with
    | some .bool => true
    | _ => false
  | .int k, t => match P.underlying t with
    | some (.int k') => k == k'
    | _ => false
  | .str, t => match P.underlying t with
    | some .string => true
    | _ => false
  | .sl sz e, t => match P.underlying t with
    | some (.slice u) => P.cellsOf u == sz && (Nat.ble 1 sz && adw P e u)
    | _ => false
  | .struct fs, t => match P.underlying t with
    | some (.struct gs) => aif P fs gs.toList 0 && P.cellsOf t == ab9 P gs.toList 0
    | _ => false
def aif (P : Program) : List Shp → List Field → Nat → Bool
  | [], [], _ => true
  | f :: fs, g :: gs, off => g.offset == off && (adw P f g.type && aif P fs gs (off + P.cellsOf g.type))
  | _, _, _ => false
def ab9 (P : Program) : List Field → Nat → Nat
  | [], off => off
  | g :: gs, off => ab9 P gs (off + P.cellsOf g.type)
end
def K0 (W : World) : Nat → Kind := fun b => match W.heap[b]? with
  | some (.cells arr _ _) => .imm arr.size
  | _ => .free
theorem ayc {W : World} {b : Nat} {arr : Array Value} {T : TypeId} {fz : Nat × Nat} (h : W.heap[b]? = some (.cells arr T fz)) : K0 W b = .imm arr.size := by simp [K0, h]
theorem aet {W : World} {a : Addr} {v : Value} (h : W.cell? a = some v) : a.spot = none ∧ ∃ arr T fz, W.heap[a.block]? = some (.cells arr T fz) ∧ arr[a.off]? = some v := by
  unfold World.cell? at h
  split at h
  · rename_i arr T fz hh
    split at h
    · cases h
    · rename_i hs; exact ⟨by simpa using hs, arr, T, fz, hh, h⟩
  · cases h
section
variable {H : Type} {enc : TypeId × Value → H} {P : Program} {W : World}
def akd (W : World) (cs : List Value) (ps : List PV) : Prop := cs.length = ps.length ∧ ∀ (j : Nat) v c, cs[j]? = some v → ps[j]? = some c → RepP (K0 W) W v c
theorem akd.one {v : Value} {p : PV} (h : RepP (K0 W) W v p) : akd W [v] [p] := ⟨rfl, fun j v' c hv hc => by
  cases j with
  | zero => simp at hv hc; subst hv; subst hc; exact h
  | succ j => simp at hv⟩
theorem abl.mk_cells : ∀ {e : Shp} {c : List PV}, abl e c → (mkV e c).cells = c := by
  intro e c h
  cases e with
  | bool => obtain ⟨b, rfl⟩ := h; rfl
  | int k => obtain ⟨n, _, rfl⟩ := h; rfl
  | str => obtain ⟨s, _, rfl⟩ := h; rfl
  | sl sz e => obtain ⟨es, rfl, _⟩ := h; rfl
  | struct fs => rfl
end
end Go.Proofs.Ytbpjaiemlkcccaa.Pv
end
section
/- The call of a law, from its contract. -/
namespace Go.Proofs.Ytbpjaiemlkcccaa.Pv
open Go
theorem RepP.lt0 {K : Nat → Kind} {w : World} {v : Value} {p : PV} (h : RepP K w v p) (k : Nat) : p.lt k := by
  induction h with
  | agg vs cs hl h ih =>
    simp only [PV.lt]; rw [mo]; intro c hc
    obtain ⟨j, hj, rfl⟩ := List.getElem_of_mem hc
    exact ih j vs[j] cs[j] (by simp) (by simp [hj])
  | _ => trivial
theorem ahh {P : Program} {f : FuncId} {ps : List PV} (hc : jo P f ps [] fun r σ' => r = .bool true) {W : World} {args : Array Value} (hl : args.size = ps.length)
    (hr : ∀ (j : Nat) v p, args[j]? = some v → ps[j]? = some p → RepP (K0 W) W v p) : Calls P f args W fun e W' => e = .returned (.bool true) ∧ RowKit.Below W.heap.size W W' := by
  refine callsIn_wide.1 (CallsIn.mono (F := Wd none) (hc ⟨fun b => b < W.heap.size, []⟩ ⟨K0 W, fun _ => ⟨0, (0, 0), false⟩⟩ W args hl ?_) fun e W' q => ?_)
  · have hslot : ∀ t, look (xw ps) t = .dead ∨ RepS ⟨K0 W, fun _ => ⟨0, (0, 0), false⟩⟩ W (args.getD t undef) (look (xw ps) t) := by
      intro t
      rw [yo, if_pos (Nat.zero_le _), Nat.sub_zero]
      cases hp : ps[t]? with
      | none => exact .inl rfl
      | some p =>
        have ht : t < args.size := by rw [hl]; exact (List.getElem?_eq_some_iff.1 hp).1
        have e : args.getD t undef = args[t] := by simp [ht]
        rw [e]
        exact .inr (.pl (hr t args[t] p (by simp [ht]) hp))
    have hown : ∀ l b, nz ⟨K0 W, fun _ => ⟨0, (0, 0), false⟩⟩ (xw ps) [] args W l ≠ some b := by
      intro l b h
      cases l with
      | slot t j => exact aiu (hslot t) j b h
      | cell i j => simp [nz] at h
    refine ⟨rfl, fun t => ?_, fun t => ?_, fun i e h => by simp at h, fun i e h => by simp at h, fun b hb => ?_, fun i e h => by simp at h, fun l1 l2 b h1 _ => absurd h1 (hown l1 b), fun l b h => absurd h (hown l b), fun b hb => hb, rfl, fun d hd => (by cases hd), Nat.le_refl _⟩
    · rcases hslot t with e | e
      · rw [e]; exact .one (.dead _)
      · exact .one (.sh e)
    · rcases hslot t with e | e
      · rw [e]; trivial
      · rw [yo, if_pos (Nat.zero_le _), Nat.sub_zero]
        cases hp : ps[t]? with
        | none => trivial
        | some p =>
          have ht : t < args.size := by rw [hl]; exact (List.getElem?_eq_some_iff.1 hp).1
          exact (hr t args[t] p (by simp [ht]) hp).lt0 _
    · have hb : K0 W b ≠ .free := hb
      unfold K0 at hb
      split at hb
      · rename_i h; exact (Array.getElem?_eq_some_iff.1 h).1
      · exact absurd rfl hb
  · obtain ⟨v, r, σ', G', rfl, rfl, hs, hv⟩ := q
    have := hs.rep 0
    have e := (this.toS rfl).bool
    simp at e
    exact ⟨by rw [e], hv.os, hv.tape, hv.output, hv.size, fun k hk => (hv.fr k hk).1⟩
section
variable {H : Type} {enc : TypeId × Value → H} {P : Program} {W : World}
open Go.ChangeShapes Go.WideShapes
end
end Go.Proofs.Ytbpjaiemlkcccaa.Pv
end
section
/- Rules for the walk. -/
namespace Go.Proofs.Ytbpjaiemlkcccaa.Pv
open Go
section
variable {P : Program} {l : Option Nat} {tt : TT} {n m : Nat} {all : Array Oper} {rest : List Oper} {env : Env} {σ : Sto} {Q : Post} {d : Nat} {ty : TypeId} {pos : String} {after : Array Edge}
theorem df {t : Nat} {x y : Code} {b : Bool} (hb : look env t = .bool b) (h : b = true) (hx : Sat P l n m x env σ Q) : Sat P l n m (.cond (.tmp t) x y) env σ Q :=
  qo hb (fun _ => hx) (fun e => by rw [h] at e; cases e)
theorem dm {t : Nat} {x y : Code} {b : Bool} (hb : look env t = .bool b) (h : b = false) (hy : Sat P l n m y env σ Q) : Sat P l n m (.cond (.tmp t) x y) env σ Q :=
  qo hb (fun e => by rw [h] at e; cases e) (fun _ => hy)
theorem qm {dst : Option Nat} {op : Op} {j t : Nat} {want b : Bool} (hj : (all[j]?).bind (·.dst) = some t) (hb : look env t = .bool b)
    (h1 : b = true → SatOps P l n m all (⟨dst, op, ty, pos, after, some (j, want)⟩ :: rest) env σ Q) (h0 : b = false → SatOps P l n m all (⟨dst, op, ty, pos, after, some (j, want)⟩ :: rest) env σ Q) :
    SatOps P l n m all (⟨dst, op, ty, pos, after, some (j, want)⟩ :: rest) env σ Q := ark hb h1 h0
def WkL : Env → Env → Prop
  | [], _ => True
  | (t, p) :: r, env => Wk p (look env t) ∧ WkL r env
theorem WkL.at : ∀ {e env : Env}, WkL e env → ∀ t, Wk (look e t) (look env t)
  | [], _, _, t => .inl rfl
  | (u, p) :: r, env, h, t => by
    rw [qg]
    split
    · rename_i e; subst e; exact h.1
    · exact WkL.at h.2 t
theorem aba {c : Code} (e : Env) (he : WkL e env) (h : Sat P l n m c e σ Q) : Sat P l n m c env σ Q := ahg e he.at h
theorem aa1 {ops : List Oper} (e : Env) (he : WkL e env) (h : SatOps P l n m all ops e σ Q) : SatOps P l n m all ops env σ Q := apc e he.at h
theorem ve {α : Type} {c : Code} (E : α → Env) (S : α → Sto) (I : α → Prop) (μ : α → Nat) (x0 : α) (h0 : I x0) (hw : WkL (E x0) env) (hS : S x0 = σ)
    (hr : ∀ x, I x → Sat P l n m c (E x) (S x) (andThen (fun env' σ' => ∃ x', I x' ∧ μ x' < μ x ∧ WkL (E x') env' ∧ S x' = σ') Q)) : Sat P l n m (.loop c) env σ Q := by
  subst hS
  refine aba (E x0) hw (ajf (fun k e s => ∃ x, I x ∧ μ x = k ∧ (∀ t, Wk (look (E x) t) (look e t)) ∧ S x = s) (μ x0) ⟨x0, h0, rfl, fun t => Wk.same _, rfl⟩ ?_)
  rintro k e s ⟨x, hx, rfl, he, rfl⟩
  refine ahg (E x) he ((hr x hx).mono fun e' env' σ' q => ?_)
  cases e' with
  | normal =>
    obtain ⟨x', h1, h2, h3, h4⟩ := q.go
    exact ⟨⟨μ x', h2, x', h1, rfl, h3.at, h4⟩⟩
  | _ => exact ⟨q.go⟩
theorem ato {fo : Operand} {args : Array Operand} {ats : Array TypeId} {f : FuncId} {ps : List PV} {R : PV → Sto → Prop} (hcal : jd P f) (hfo : fo = .func f) (hps : zy tt env args.toList ats.toList = ps) (hlen : Nat.ble args.size ats.size = true)
    (htup : ps.all (fun p => !p.isTup) = true) (hc : jo P f ps σ R) (hd : Nat.ble (d + 1) n = true) (h : ∀ r σ', R r σ' → SatOps P l n m all rest ((d, r) :: env) σ' Q) :
    SatOps P l n m all (⟨some d, .call ⟨.value fo, args, ats⟩, ty, pos, after, none⟩ :: rest) env σ Q := by
  subst hfo
  exact akj (tt := tt) (as := []) (bs := []) hcal rfl (by simp [hps]) (nlb hlen) htup hc (ltn hd) h
end
section
variable {tt : TT} {fn : Func} {m : Nat} {R : PV → Sto → Prop} {e : Exit} {env : Env} {σ τ ex : Sto}
theorem ave (he : e = .normal ∨ e = .ret) (hres : fn.results.toList = []) (hR : R (.tup []) σ) : gu tt fn m R e env σ := by
  refine ⟨he, [], σ, [], ?_, ?_, (List.append_nil _).symm, .inl rfl, trivial, hR⟩
  · rw [hres]; trivial
  · intro x hx; cases hx
end
end Go.Proofs.Ytbpjaiemlkcccaa.Pv
end
section
/- Boxes of one's own behind the store that was there. -/
namespace Go.Proofs.Ytbpjaiemlkcccaa.Pv
open Go
section
variable {P : Program} {l : Option Nat} {tt : TT} {n m : Nat} {all : Array Oper} {rest : List Oper} {env : Env} {τ ex : Sto} {Q : Post} {d : Nat} {dd : Option Nat} {ty : TypeId} {pos : String} {after : Array Edge} {g : Option (Nat × Bool)}
theorem oh {c : Code} {σ : Sto} (h : Sat P l n m c env (σ ++ []) Q) : Sat P l n m c env σ Q := by rw [List.append_nil] at h; exact h
theorem wo (k : Nat) : (τ ++ ex)[τ.length + k]? = ex[k]? := by rw [List.getElem?_append_right (Nat.le_add_right _ _), Nat.add_sub_cancel_left]
theorem abr (k : Nat) (e : Ent) : (τ ++ ex).set (τ.length + k) e = τ ++ ex.set k e := by rw [List.set_append_right _ _ (Nat.le_add_right _ _), Nat.add_sub_cancel_left]
theorem ag {i : Nat} {e : Ent} (h : τ[i]? = some e) : (τ ++ ex)[i]? = some e := by rw [List.getElem?_append_left (List.getElem?_eq_some_iff.1 h).1]; exact h
theorem kg {t : TypeId} {x : Operand} {p : PV} {k : Nat} (hp : opv tt env t x = p) (hS : p.isS = true) (hk : ex.length = k) (hd : Nat.ble (d + 1) n = true)
    (h : SatOps P l n m all rest ((d, .ptr (τ.length + k) 0) :: env) (τ ++ (ex ++ [.cells p.cells])) Q) : SatOps P l n m all (⟨some d, .box t x, ty, pos, after, none⟩ :: rest) env (τ ++ ex) Q := by
  refine awl hp hS (ltn hd) ?_
  rw [List.length_append, hk, List.append_assoc]; exact h
theorem ik (ht : oq P tt) {t : TypeId} {i : TI} {k : Nat} {cs : List PV} (hi : tl tt t = some i) (hc : i.zero.map ai3 = cs) (hk : ex.length = k) (hd : Nat.ble (d + 1) n = true)
    (h : SatOps P l n m all rest ((d, .ptr (τ.length + k) 0) :: env) (τ ++ (ex ++ [.cells cs])) Q) : SatOps P l n m all (⟨some d, .alloc t, ty, pos, after, none⟩ :: rest) env (τ ++ ex) Q := by
  refine am1 ht hi (ltn hd) ?_
  rw [List.length_append, hk, List.append_assoc, hc]; exact h
theorem ahm (ht : oq P tt) {t : TypeId} {x : Operand} {k off : Nat} {ti : TI} {cs : List PV} {p : PV} (hx : opv tt env t x = .ptr (τ.length + k) off) (hti : tl tt t = some ti) (hnd : ai7 ti.desc = false)
    (hi : ex[k]? = some (.cells cs)) (hp : cs[off]? = some p) (ho : p.isOwn = true) (hd : Nat.ble (d + 1) n = true) (h : SatOps P l n m all rest ((d, p) :: env) (τ ++ ex.set k (.cells (cs.set off (y8 p)))) Q) :
    SatOps P l n m all (⟨some d, .load t x, ty, pos, after, none⟩ :: rest) env (τ ++ ex) Q := by
  refine atn ht hx hti hnd ((wo k).trans hi) hp ho (ltn hd) ?_
  rw [abr]; exact h
theorem dz (ht : oq P tt) {t : TypeId} {x y : Operand} {k off : Nat} {ti : TI} {cs : List PV} {p : PV} (hx : opv tt env t x = .ptr (τ.length + k) off) (hti : tl tt t = some ti)
    (hi : ex[k]? = some (.cells cs)) (hy : opv tt env t y = p) (hS : p.isS = true) (hn : Nat.beq p.cells.length ti.size = true) (h1 : p.cells.all PV.one = true) (hoff : Nat.ble (off + ti.size) cs.length = true)
    (h : SatOps P l n m all rest env (τ ++ ex.set k (.cells (putAt cs off p.cells))) Q) : SatOps P l n m all (⟨none, .store t x y, ty, pos, after, none⟩ :: rest) env (τ ++ ex) Q := by
  refine ah4 ht hx hti ((wo k).trans hi) hy hS (Nat.eq_of_beq_eq_true hn) h1 (nlb hoff) ?_
  rw [abr]; exact h
theorem ug (ht : oq P tt) {t : TypeId} {x : Operand} {u : Nat} {k off : Nat} {ti : TI} {cs : List PV} {p : PV} (hx : opv tt env t x = .ptr (τ.length + k) off) (hti : tl tt t = some ti) (hsz : ti.size = 1)
    (hi : ex[k]? = some (.cells cs)) (hp : look env u = p) (ho : p.isOwn = true) (hoff : Nat.ble (off + 1) cs.length = true) (hux : x ≠ .tmp u)
    (h : SatOps P l n m all rest ((u, y8 p) :: env) (τ ++ ex.set k (.cells (cs.set off p))) Q) : SatOps P l n m all (⟨none, .store t x (.tmp u), ty, pos, after, none⟩ :: rest) env (τ ++ ex) Q := by
  refine aq7 ht hx hti hsz ((wo k).trans hi) hp ho (nlb hoff) hux ?_
  rw [abr]; exact h
theorem aj (ht : oq P tt) {t : TypeId} {x : Operand} {k off : Nat} {ti : TI} {cs : List PV} {c : Prop} {p : PV} (hx : opv tt env t x = .ptr (τ.length + k) off) (hti : tl tt t = some ti)
    (hi : ex[k]? = some (.cells cs)) (hl : ag5 ti cs off = some (c, p)) (hc : c) : LookAt P n m env (τ ++ ex) ⟨dd, .load t x, ty, pos, after, g⟩ p :=
  jb ht hx hti ((wo k).trans hi) hl hc
end
section
variable {P : Program} {l : Option Nat} {tt : TT} {n m : Nat} {all : Array Oper} {rest : List Oper} {env : Env} {σ : Sto} {Q : Post} {d : Nat} {ty : TypeId} {pos : String} {after : Array Edge}
theorem cz {fo : Operand} {args : Array Operand} {ats : Array TypeId} {f : FuncId} {ps : List PV} {p : PV} (hcal : jd P f) (hc : jo P f ps σ fun x σ' => x = p ∧ σ' = σ) (hfo : fo = .func f) (hps : zy tt env args.toList ats.toList = ps) (hlen : Nat.ble args.size ats.size = true)
    (htup : ps.all (fun p => !p.isTup) = true) (hd : Nat.ble (d + 1) n = true) (h : SatOps P l n m all rest ((d, p) :: env) σ Q) :
    SatOps P l n m all (⟨some d, .call ⟨.value fo, args, ats⟩, ty, pos, after, none⟩ :: rest) env σ Q :=
  ato hcal hfo hps hlen htup hc hd fun _ _ ⟨e1, e2⟩ => by rw [e1, e2]; exact h
end
section
variable {N : Env → Sto → Prop} {Q : Post} {env : Env} {σ : Sto} {k k' : Nat}
theorem bf (h : N env σ) : andThen N Q .normal env σ := ⟨h⟩
theorem lq (h : Q .ret env σ) : andThen N Q .ret env σ := ⟨h⟩
theorem o9 (h : Q (.exit k) env σ) : andThen N Q (.exit k) env σ := ⟨h⟩
theorem ng (h : Q .normal env σ) : inBlk k Q .normal env σ := ⟨h⟩
theorem om (h : Q .ret env σ) : inBlk k Q .ret env σ := ⟨h⟩
theorem pg (h : Q .normal env σ) : inBlk k Q (.exit k) env σ := ⟨by simp only [aj6, if_true]; exact h⟩
end
structure DrawTo (P : Program) (n m : Nat) (all : Array Oper) (env : Env) (σ : Sto) (ops : List Oper) (K : Env → Prop) : Prop where
  go : ∃ ps, akr P n m all σ env ops ps ∧ K (yx env ops ps)
section
variable {P : Program} {l : Option Nat} {n m : Nat} {all : Array Oper} {env : Env} {σ : Sto} {Q : Post} {d : Nat} {op : Op} {ty : TypeId} {pos : String} {after : Array Edge} {os : List Oper} {K : Env → Prop} {p : PV}
end
end Go.Proofs.Ytbpjaiemlkcccaa.Pv
end
section
/- Iterators by what they yield. -/
namespace Go.Proofs.Ytbpjaiemlkcccaa.Pv
open Go
theorem Wk.eq {p q : PV} (h : p = q) : Wk p q := by rw [h]; exact Wk.same _
def amr : Env → Env → Prop
  | [], _ => True
  | (t, p) :: r, env => (look env t = p ∧ p.isS = true) ∧ amr r env
theorem amr.at : ∀ {e env : Env}, amr e env → ∀ t, look e t = .dead ∨ (look e t = look env t ∧ (look env t).isS = true)
  | [], _, _, t => .inl rfl
  | (u, p) :: r, env, h, t => by
    rw [qg]
    split
    · rename_i e; subst e; rw [h.1.1]; exact .inr ⟨rfl, h.1.2⟩
    · exact amr.at h.2 t
structure Opvs (tt : TT) (env : Env) (xs : List Operand) (ps : List PV) : Prop where
  e : ps = xs.map (opv tt env 0)
theorem nk {tt : TT} {env : Env} : Opvs tt env [] [] := ⟨rfl⟩
theorem mh {tt : TT} {env : Env} {x : Operand} {p : PV} {xs : List Operand} {ps : List PV} (h : opv tt env 0 x = p) (r : Opvs tt env xs ps) : Opvs tt env (x :: xs) (p :: ps) := ⟨by rw [r.e, ← h]; rfl⟩
section
variable {P : Program} {l : Option Nat} {tt : TT} {n m : Nat} {all : Array Oper} {rest : List Oper} {env : Env} {σ : Sto} {Q : Post} {d : Nat} {ty : TypeId} {pos : String} {after : Array Edge}
theorem aly {parts : List (Nat × Operand)} (k : Nat) (h : parts.map (·.1) = List.range' k parts.length) : parts = ((parts.map (·.2)).zipIdx k).map fun x => (x.2, x.1) := by
  induction parts generalizing k with
  | nil => rfl
  | cons p r ih =>
    simp only [List.map_cons, List.length_cons, List.range'_succ, List.cons.injEq] at h
    simp only [List.map_cons, List.zipIdx_cons]
    rw [← ih (k + 1) h.2, ← h.1]
theorem mq (o : Own) [Own.NT o] (ht : oq P tt) {t : TypeId} {len : Nat} {parts : Array (Nat × Operand)} {e : TI} {es : List PV} (he : eti tt t = some e) (hx : Opvs tt env (parts.toList.map (·.2)) es) (hpl : es.all PV.pl = true)
    (hsz : es.all (fun p => Nat.beq p.cells.length e.size) = true) (hbig : Nat.ble (es.length * e.size) 16777216 = true) (hlen : len = parts.toList.length) (hparts : parts.toList.map (·.1) = List.range' 0 parts.toList.length)
    (hd : Nat.ble (d + 1) n = true) (h : SatOps P l n m all rest ((d, .sl o e.size es) :: env) σ Q) : SatOps P l n m all (⟨some d, .buildSlice t len parts, ty, pos, after, none⟩ :: rest) env σ Q := by
  refine alh o ht (eT := 0) he hx.e hpl hsz (nlb hbig) ?_ ?_ (ltn hd) h
  · rw [hx.e, List.length_map, List.length_map]; exact hlen
  · have := aly 0 hparts
    rw [← this]
theorem ky {op : Op} {j t : Nat} {want b : Bool} (hj : (all[j]?).bind (·.dst) = some t) (hb : look env t = .bool b) (hw : b = !want) (hd : d < n)
    (h : SatOps P l n m all rest ((d, .tup []) :: env) σ Q) : SatOps P l n m all (⟨some d, op, ty, pos, after, some (j, want)⟩ :: rest) env σ Q := by
  refine ⟨fun F G a w hs => ?_⟩
  simp only [wpListIn]
  rw [if_neg (by simp [Region.wanted, ad5 hs hj hb, hw])]
  exact ⟨fun _ _ => trivial, h.go F G _ w (hs.setN hd (.inr (.inr ⟨#[], [], rfl, rfl, rfl, fun j v c h => by simp at h⟩)) trivial)⟩
theorem av1 {G : Gh} {w : World} {v : Value} {ps : List PV} (h : Rep G w v (.tup ps)) : ∃ vs, v = .tuple vs := by
  cases h with
  | one h => cases h with | sh h => exact h.notup.elim
  | tup vs ps hl h => exact ⟨vs, rfl⟩
theorem ru {op : Op} {j t : Nat} {want : Bool} (hj : (all[j]?).bind (·.dst) = some t) (hb : look env t = .tup []) (hd : d < n)
    (h : SatOps P l n m all rest ((d, .tup []) :: env) σ Q) : SatOps P l n m all (⟨some d, op, ty, pos, after, some (j, want)⟩ :: rest) env σ Q := by
  refine ⟨fun F G a w hs => ?_⟩
  have hy : yielded all a.tmps j = none := by
    have hr := hs.rep t
    rw [hb] at hr
    unfold yielded
    rw [hj]
    simp only [Option.bind_some]
    by_cases ht : t < a.tmps.size
    · have e : a.tmps.getD t undef = a.tmps[t] := by simp [ht]
      rw [e] at hr
      obtain ⟨vs, hv⟩ := av1 hr
      simp [ht, hv]
    · simp [Array.getElem?_eq_none (Nat.le_of_not_lt ht)]
  simp only [wpListIn]
  rw [if_neg (by simp [Region.wanted, hy])]
  exact ⟨fun _ _ => trivial, h.go F G _ w (hs.setN hd (.inr (.inr ⟨#[], [], rfl, rfl, rfl, fun j v c h => by simp at h⟩)) trivial)⟩
theorem fw {dd : Option Nat} {g : Option (Nat × Bool)} {α : Type} [Inhabited α] (f : α → PV) (ht : oq P tt) {t tI : TypeId} {x i : Operand} {k : IntKind} {z : Int} {sz : Nat} {xs : List α} {e : TI} (he : eti tt t = some e) (hx : opv tt env t x = .sl .sh sz (xs.map f))
    (hi : opv tt env tI i = .int k z) (hsz : sz = e.size) (h0 : 0 ≤ z) (h1 : z < xs.length) {cs : List PV} (hcs : (f (xs.getD z.toNat default)).cells = cs) : LookAt P n m env σ ⟨dd, .indexAddr t x i, ty, pos, after, g⟩ (.cref cs) := by
  refine LookAt.norm (LookAt.of (fun F G a w hs => acv (tI := tI) ht hs) (c := sz = e.size ∧ 0 ≤ z ∧ z < ((xs.map f).length : Int)) ?_ ⟨hsz, h0, by simpa using h1⟩)
  rw [hx, hi]
  simp only [acy, he]
  have hlt : z.toNat < xs.length := by omega
  have : (xs.map f).getD z.toNat .dead = f (xs.getD z.toNat default) := by simp [List.getD, hlt]
  rw [this, hcs]
theorem qf (ht : oq P tt) {tb : Nat} {xo : Operand} {tS tX : TypeId} {o : Own} {sz : Nat} {es ys : List PV} {e : TI} (hb : look env tb = .sl o sz es) (ho : (PV.sl o sz es).isOwnA = true) (he : eti tt tS = some e) (hez : e.size = sz)
    {i : TI} {eX : Nat} (hX : tl tt tX = some i) (hXi : i.desc = .slice eX) (hx : opv tt env tX xo = .sl .sh sz ys) (hB : Nat.ble e.bytes 4095 = true)
    (hfit : es.length + ys.length ≤ 34359738368) (hone : (flat ys).all PV.one = true) (hd : Nat.ble (d + 1) n = true)
    (h : SatOps P l n m all rest ((d, .sl o sz (es ++ ys)) :: (tb, y8 (.sl o sz es)) :: env) σ Q) :
    SatOps P l n m all (⟨some d, .call ⟨.builtin .append, #[.tmp tb, xo], #[tS, tX]⟩, ty, pos, after, none⟩ :: rest) env σ Q :=
  ar6 ht hb ho he hez hX hXi hx (by
    have h1 := nlb hB
    exact Nat.le_trans (Nat.mul_le_mul hfit (Nat.succ_le_succ h1)) (by decide)) hone (ltn hd) h
end
end Go.Proofs.Ytbpjaiemlkcccaa.Pv
end
section
/- Equality of structs; slices of slices and texts. -/
namespace Go.Proofs.Ytbpjaiemlkcccaa.Pv
open Go
def alo (i : TI) (cs : List PV) (off : Nat) : Option PV :=
  match ai7 i.desc with
  | true => match Nat.ble (off + i.size) cs.length with
    | true => some (.agg ((cs.drop off).take i.size))
    | false => none
  | false => cs[off]?
def ao0 (tt : TT) (eq : TypeId → PV → PV → Option Bool) : List Field → List PV → List PV → Option Bool
  | [], _, _ => some true
  | g :: r, xs, ys => match tl tt g.type with
    | some i => (match alo i xs g.offset, alo i ys g.offset with
      | some x, some y => (match eq g.type x y, ao0 tt eq r xs ys with
        | some p, some q => some (p && q)
        | _, _ => none)
      | _, _ => none)
    | none => none
def ai2 (tt : TT) (ok : List Nat) : Nat → TypeId → PV → PV → Option Bool
  | 0, _, _, _ => none
  | f + 1, t, x, y => match tl tt t with
    | some ⟨.bool, _, _, _⟩ => (match x, y with
      | .bool a, .bool b => some (a == b)
      | _, _ => none)
    | some ⟨.int _, _, _, _⟩ => (match x, y with
      | .int k a, .int k' b => (match decide (k = k') with | true => some (a == b) | false => none)
      | _, _ => none)
    | some ⟨.string, _, _, _⟩ => (match x, y with
      | .str a, .str b => some (a == b)
      | _, _ => none)
    | some ⟨.struct fs, _, _, _⟩ => (match ok.any (Nat.beq t), x, y with
      | true, .agg xs, .agg ys => ao0 tt (ai2 tt ok f) fs.toList xs ys
      | _, _, _ => none)
    | _ => none
def aj4 (P : Program) (ok : List Nat) : Bool := ok.all fun t => match P.underlying t with
  | some (.struct fs) => fs.toList.all (fun g => g.name != "_") && (!P.stoodInHeld t && !P.eqGuardType P.depth t)
  | _ => false
section
variable {P : Program} {tt : TT} {G : Gh} {w : World}
theorem aom (ht : oq P tt) {t : TypeId} {i : TI} (hi : tl tt t = some i) {vs : Array Value} {cs : List PV} (hl : vs.size = cs.length) {off : Nat} (hv : ∀ (j : Nat) v c, vs[j]? = some v → cs[j]? = some c → RepS G w v c)
    {p : PV} (hp : alo i cs off = some p) : ∃ v, (part t vs off).run P w = .ok v w ∧ RepS G w v p := by
  unfold alo at hp
  split at hp
  · rename_i hd
    split at hp
    · rename_i hb
      cases hp
      have hb := nlb hb
      refine anj (c := off + i.size ≤ cs.length) (p := .agg ((cs.drop off).take i.size)) (ht _ _ hi) hl hv (fun us ds h1 h2 => .agg us ds h1 h2) ?_ hb w
      unfold aia
      rw [hd]
      simp only [ahn hb]
    · cases hp
  · rename_i hd
    refine anj (c := True) (p := p) (ht _ _ hi) hl hv (fun us ds h1 h2 => .agg us ds h1 h2) ?_ trivial w
    unfold aia
    rw [hd]
    have : cs.drop off = p :: cs.drop (off + 1) := by
      obtain ⟨h1, h2⟩ := List.getElem?_eq_some_iff.1 hp
      rw [← h2]; exact List.drop_eq_getElem_cons h1
    rw [this]
theorem aof {ok : List Nat} {t : Nat} (h : ok.any (Nat.beq t) = true) : t ∈ ok := by
  obtain ⟨x, h1, h2⟩ := List.any_eq_true.1 h
  rw [Nat.eq_of_beq_eq_true h2]; exact h1
theorem ayj (ht : oq P tt) {ok : List Nat} (hok : aj4 P ok = true) : ∀ (f : Nat) (t : TypeId) (x y : PV) (v u : Value) (b : Bool), ai2 tt ok f t x y = some b → RepS G w v x → RepS G w u y → ∀ d, f ≤ d → (Op.equalIn d t v u).run P w = .ok b w := by
  intro f
  induction f with
  | zero => intro t x y v u b h; cases h
  | succ f ih =>
    intro t x y v u b h hv hu d hd
    obtain ⟨d, rfl⟩ : ∃ d', d = d' + 1 := ⟨d - 1, by omega⟩
    simp only [ai2] at h
    split at h
    · rename_i hT
      split at h
      · cases h
        rw [hv.bool, hu.bool]
        exact run_equalIn_bool' w d t _ _ (ht _ _ hT).und
      · cases h
    · rename_i hT
      split at h
      · split at h
        · rename_i hk
          cases h
          have hk := of_decide_eq_true hk
          subst hk
          rw [hv.int, hu.int]
          exact run_equalIn_int w d t _ _ _ _ (ht _ _ hT).und
        · cases h
      · cases h
    · rename_i hT
      split at h
      · cases h
        rw [hv.str, hu.str]
        rw [run_equalIn_string w d t _ _ (ht _ _ hT).und]
        rw [beq_toListBytes]
      · cases h
    · rename_i fs sz by_ z hT
      split at h
      · rename_i xs ys hin
        obtain ⟨vs, rfl, hl, hvs⟩ := hv.aggv
        obtain ⟨us, rfl, hl', hus⟩ := hu.aggv
        have hm := List.all_eq_true.1 hok _ (aof hin)
        have hu' : P.underlying t = some (.struct fs) := (ht _ _ hT).und
        rw [hu'] at hm
        simp only [Bool.and_eq_true, Bool.not_eq_true'] at hm
        have hf : P.fieldsOf t = fs := by unfold Program.fieldsOf; rw [hu']
        rw [run_equalIn_struct w d t vs us (by rw [hf]; exact hu') hm.2.1, hf]
        have key : ∀ (l : List Field) (b : Bool), (∀ g ∈ l, (g.name != "_") = true) → ao0 tt (ai2 tt ok f) l xs ys = some b → (Op.eqFields d vs us l).run P w = .ok b w := by
          intro l
          induction l with
          | nil => intro b _ h; cases h; rfl
          | cons g r ih2 =>
            intro b hn h
            simp only [ao0] at h
            split at h
            · rename_i i hi
              split at h
              · rename_i x y hx hy
                split at h
                · rename_i p q hp hq
                  cases h
                  obtain ⟨a1, e1, r1⟩ := aom (P := P) ht hi hl hvs hx
                  obtain ⟨a2, e2, r2⟩ := aom (P := P) ht hi hl' hus hy
                  have hne : g.name ≠ "_" := by simpa using hn g List.mem_cons_self
                  have e3 := ih g.type x y a1 a2 p hp r1 r2 d (by omega)
                  simp only [Op.eqFields, Sem.run_ite, if_pos hne, Sem.run_bind, e1, e2, e3, Result.andThen_ok]
                  cases p
                  · simp
                  · simp only [Bool.not_true, Bool.false_eq_true, if_false, Bool.true_and]
                    exact ih2 q (fun g' hg => hn g' (List.mem_cons_of_mem _ hg)) hq
                · cases h
              · cases h
            · cases h
        exact key fs.toList b (List.all_eq_true.1 hm.1) h
      · cases h
    · cases h
end
section
variable {P : Program} {l : Option Nat} {tt : TT} {n m : Nat} {all : Array Oper} {rest : List Oper} {env : Env} {σ : Sto} {Q : Post} {d : Nat} {dd : Option Nat} {ty : TypeId} {pos : String} {after : Array Edge} {g : Option (Nat × Bool)}
theorem arx (ht : oq P tt) {ok : List Nat} (hok : aj4 P ok = true) {neq : Bool} {xT yT : TypeId} {x y : Operand} {i : TI} {fs : Array Field} {xs ys : List PV} {b : Bool} (hi : tl tt xT = some i) (hd : i.desc = .struct fs) (hx : opv tt env xT x = .agg xs) (hy : opv tt env yT y = .agg ys)
    (hin : ok.any (Nat.beq xT) = true) (he : ai2 tt ok 9 xT (.agg xs) (.agg ys) = some b) {p : PV} (hp : .bool (if neq then !b else b) = p) : LookAt P n m env σ ⟨dd, .binOp (if neq then .neq else .eql) xT x y yT, ty, pos, after, g⟩ p := by
  refine ⟨fun F G a w hs => ?_⟩
  have hxo := (o7 hs tt xT x)
  have hyo := (o7 hs tt yT y)
  rw [hx] at hxo
  rw [hy] at hyo
  have rx := hxo.toS rfl
  have ry := hyo.toS rfl
  obtain ⟨vs, ex, _⟩ := rx.aggv
  obtain ⟨us, ey, _⟩ := ry.aggv
  have hrun := ayj (P := P) ht hok 9 xT _ _ _ _ b he rx ry 10000 (by omega)
  have hm := List.all_eq_true.1 hok _ (aof hin)
  rw [(ht _ _ hi).und, hd] at hm
  simp only [Bool.and_eq_true, Bool.not_eq_true'] at hm
  rw [ex, ey] at hrun
  subst hp
  cases neq
  · refine ⟨.bool b, ?_, .inr (.inl (.pl (.bool _))), trivial⟩
    simp only [execOp, ex, ey, Sem.run_bind, Bool.false_eq_true, if_false, run_eqGuard_agg w _ _ _ _ _ _ hm.2.2, Result.andThen_ok, run_eql_struct, hrun, Sem.run_pure]
  · refine ⟨.bool (!b), ?_, .inr (.inl (.pl (.bool _))), trivial⟩
    simp only [execOp, ex, ey, Sem.run_bind, if_true, run_eqGuard_agg w _ _ _ _ _ _ hm.2.2, Result.andThen_ok, run_neq_struct, hrun, Sem.run_pure]
end
end Go.Proofs.Ytbpjaiemlkcccaa.Pv
end
section
/- Slices of slices and of texts. -/
namespace Go.Proofs.Ytbpjaiemlkcccaa.Pv
open Go
def aat (tt : TT) (env : Env) (o : Option Operand) (dflt : Int) : Option Int :=
  match o with
  | none => some dflt
  | some x => match opv tt env 0 x with
    | .int _ z => some z
    | _ => none
section
variable {P : Program} {tt : TT} {n m : Nat} {env : Env} {σ : Sto} {F : Fr} {G : Gh} {a : Act} {w : World}
theorem agk (hs : Sim n m F G env σ a w) {o : Option Operand} {dflt z : Int} (h : aat tt env o dflt = some z) : (o = none ∧ z = dflt) ∨ ∃ x k, o = some x ∧ a.eval x = .int k z := by
  unfold aat at h
  split at h
  · cases h; exact .inl ⟨rfl, rfl⟩
  · rename_i x
    split at h
    · rename_i k z' hx
      cases h
      have := o7 hs tt 0 x
      rw [hx] at this
      exact .inr ⟨x, k, rfl, (this.toS rfl).int⟩
    · cases h
theorem abd {k : IntKind} {z : Int} {y : Nat} (code : BoundsCode) (h0 : 0 ≤ z) (h1 : z ≤ y) (w : World) : (Instr.sliceBound (.int k z) y code).run P w = .ok z.toNat w := by
  simp [Instr.sliceBound, asIntOf, h0, h1]
theorem agv (hs : Sim n m F G env σ a w) {isS : Bool} {len cap : Nat} {lo hi : Option Operand} {l h : Int} (hl : aat tt env lo 0 = some l) (hh : aat tt env hi len = some h) (h0 : 0 ≤ l) (h1 : l ≤ h) (h2 : h ≤ cap) :
    (Instr.sliceBounds isS len cap (lo.map a.eval) (hi.map a.eval) none).run P w = .ok (l.toNat, h.toNat, cap) w := by
  rcases agk hs hl with ⟨rfl, rfl⟩ | ⟨x, k, rfl, ex⟩ <;> rcases agk hs hh with ⟨rfl, rfl⟩ | ⟨y, k', rfl, ey⟩
  · simp [Instr.sliceBounds]
  · simp [Instr.sliceBounds, ey, abd _ (show 0 ≤ h by omega) h2]
  · simp [Instr.sliceBounds, ex, abd _ h0 h1]
  · have : l ≤ ((h.toNat : Nat) : Int) := by omega
    simp [Instr.sliceBounds, ex, ey, abd _ (show 0 ≤ h by omega) h2, abd _ h0 this]
theorem an9 (hs : Sim n m F G env σ a w) {isS : Bool} {len cap : Nat} {lo : Option Operand} {hi mx : Operand} {l h mm : Int} (hl : aat tt env lo 0 = some l) (hh : aat tt env (some hi) 0 = some h) (hm : aat tt env (some mx) 0 = some mm) (h0 : 0 ≤ l) (h1 : l ≤ h) (h2 : h ≤ mm) (h3 : mm ≤ cap) :
    (Instr.sliceBounds isS len cap (lo.map a.eval) (some (a.eval hi)) (some (a.eval mx))).run P w = .ok (l.toNat, h.toNat, mm.toNat) w := by
  rcases agk hs hh with ⟨e, _⟩ | ⟨y, k', e, ey⟩
  · cases e
  rcases agk hs hm with ⟨e', _⟩ | ⟨z, k'', e', ez⟩
  · cases e'
  cases e; cases e'
  have q1 : h ≤ ((mm.toNat : Nat) : Int) := by omega
  have q2 : l ≤ ((h.toNat : Nat) : Int) := by omega
  rcases agk hs hl with ⟨rfl, rfl⟩ | ⟨x, k, rfl, ex⟩
  · simp [Instr.sliceBounds, ey, ez, abd _ (show 0 ≤ mm by omega) h3, abd _ (show 0 ≤ h by omega) q1]
  · simp [Instr.sliceBounds, ex, ey, ez, abd _ (show 0 ≤ mm by omega) h3, abd _ (show 0 ≤ h by omega) q1, abd _ h0 q2]
theorem RepP.cut {K : Nat → Kind} {w : World} {ad : Option Addr} {len cap sz : Nat} {es : List PV} (h : RepP K w (.slice ad len cap) (.sl .sh sz es)) {l h' mm : Nat} (h1 : l ≤ h') (h2 : h' ≤ es.length) (h3 : h' ≤ mm) :
    RepP K w (.slice (if mm = l then ad else ad.map (·.add (l * sz))) (h' - l) (mm - l)) (.sl .sh sz ((es.drop l).take (h' - l))) := by
  by_cases h0 : h' - l = 0
  · rw [h0, List.take_zero]; exact .sl0 _ _ _
  · rw [if_neg (by omega)]
    cases h with
    | sl0 a c sz => simp at h2; omega
    | sl ad cap sz p es vs hs hK hp hc hsz hv hr =>
      simp only [Option.map_some]
      rw [aai hs]
      have hlen : ((es.drop l).take (h' - l)).length = h' - l := by simp; omega
      have hsub : ∀ e ∈ (es.drop l).take (h' - l), e.cells.length = sz := fun e he => hsz e (List.mem_of_mem_drop (List.mem_of_mem_take he))
      have hmul : l * sz + (h' - l) * sz ≤ es.length * sz := by rw [← Nat.add_mul]; exact Nat.mul_le_mul_right _ (by omega)
      have hmul2 : (h' - l) * sz ≤ es.length * sz := Nat.mul_le_mul_right _ (by omega)
      have key : ∀ j c, (flat ((es.drop l).take (h' - l)))[j]? = some c → (flat es)[l * sz + j]? = some c := by
        intro j c hc
        rw [ak8 (fun e he => hsz e (List.mem_of_mem_drop he)), ald hsz] at hc
        rw [List.getElem?_take] at hc
        split at hc
        · rw [List.getElem?_drop] at hc; exact hc
        · cases hc
      have fin := RepP.sl (K := K) (w := w) ⟨ad.block, ad.off + l * sz, none⟩ (mm - l) sz p ((es.drop l).take (h' - l)) (fun j => vs (l * sz + j)) rfl hK (by rw [hlen]; simp only; omega) (by rw [hlen]; omega) hsub
        (fun j hj => by rw [hlen] at hj; have := hv (l * sz + j) (by omega); rw [← Nat.add_assoc] at this; exact this) (fun j c hc => hr _ c (key j c hc))
      rw [hlen] at fin
      exact fin
def am8 (tt : TT) (env : Env) (t : TypeId) (x : Operand) (lo hi : Option Operand) : Option (Prop × PV) :=
  match tl tt t, opv tt env t x with
  | some ⟨.string, _, _, _⟩, .str s => (match aat tt env lo 0, aat tt env hi s.size with
    | some l, some h => some (0 ≤ l ∧ l ≤ h ∧ h ≤ s.size, .str (s.extract l.toNat h.toNat))
    | _, _ => none)
  | some ⟨.slice e, _, _, _⟩, .sl .sh sz es => (match aat tt env lo 0, aat tt env hi es.length, tl tt e with
    | some l, some h, some i => some (0 ≤ l ∧ l ≤ h ∧ h ≤ es.length ∧ i.size = sz, .sl .sh sz ((es.drop l.toNat).take (h.toNat - l.toNat)))
    | _, _, _ => none)
  | _, _ => none
theorem RepS.slcap {v : Value} {sz : Nat} {es : List PV} (h : RepS G w v (.sl .sh sz es)) : ∃ ad cap, v = .slice ad es.length cap ∧ es.length ≤ cap ∧ RepP G.K w (.slice ad es.length cap) (.sl .sh sz es) := by
  cases h with
  | pl h => cases h with
    | sl0 a cap sz => exact ⟨a, cap, rfl, Nat.zero_le _, .sl0 a cap sz⟩
    | sl ad cap sz p es vs hs hK hp hc hsz hv hr => exact ⟨some ad, cap, rfl, hc, .sl ad cap sz p es vs hs hK hp hc hsz hv hr⟩
theorem jh {dd : Option Nat} {ty : TypeId} {pos : String} {after : Array Edge} {g : Option (Nat × Bool)} (ht : oq P tt) {t : TypeId} {x : Operand} {lo hi : Option Operand} {c : Prop} {p : PV} (hp : am8 tt env t x lo hi = some (c, p)) (hc : c) :
    LookAt P n m env σ ⟨dd, .slice t x lo hi none, ty, pos, after, g⟩ p := by
  refine ⟨fun F G a w hs => ?_⟩
  have hxo := o7 hs tt t x
  unfold am8 at hp
  split at hp
  · rename_i s1 b1 z1 s hT hx
    rw [hx] at hxo
    have ex := (hxo.toS rfl).str
    split at hp
    · rename_i l h hl hh
      cases hp
      obtain ⟨c1, c2, c3⟩ := hc
      have hb := agv (P := P) hs (isS := false) (cap := s.size) hl hh c1 c2 (by omega)
      refine ⟨.string (s.extract l.toNat h.toNat), ?_, .inr (.inl (.pl (.str _))), trivial⟩
      have hu := (ht _ _ hT).rund w
      simp only [execOp, ex, Instr.sliceAt, Instr.slice, Sem.run_bind, hu, Result.andThen_ok, Option.map_none, Option.isSome_none, hb]
      simp [hb]
    · cases hp
  · rename_i e s1 b1 z1 sz es hT hx
    rw [hx] at hxo
    obtain ⟨ad, cap, ex, hcap, hR⟩ := RepS.slcap (hxo.toS rfl)
    split at hp
    · rename_i l h i hl hh hi'
      cases hp
      obtain ⟨c1, c2, c3, c4⟩ := hc
      have hb := agv (P := P) hs (isS := true) (cap := cap) hl hh c1 c2 (by omega)
      refine ⟨.slice (if cap = l.toNat then ad else ad.map (·.add (l.toNat * sz))) (h.toNat - l.toNat) (cap - l.toNat), ?_, .inr (.inl (.pl (hR.cut (by omega) (by omega) (by omega)))), trivial⟩
      have hu := (ht _ _ hT).rund w
      have hz := (ht _ _ hi').rsize w
      simp only [execOp, ex, Instr.sliceAt, Instr.slice, Sem.run_bind, hu, Result.andThen_ok, Option.map_none, hb, hz, c4]
      simp
    · cases hp
  · cases hp
theorem ll {dd : Option Nat} {ty : TypeId} {pos : String} {after : Array Edge} {g : Option (Nat × Bool)} (ht : oq P tt) {ok : List Nat} (hok : aj4 P ok = true) {xT yT : TypeId} {x y : Operand} {i : TI} {fs : Array Field} {xs ys : List PV} {b : Bool} (hi : tl tt xT = some i) (hd : i.desc = .struct fs)
    (hx : opv tt env xT x = .agg xs) (hy : opv tt env yT y = .agg ys) (hin : ok.any (Nat.beq xT) = true) (he : ai2 tt ok 9 xT (.agg xs) (.agg ys) = some b) : LookAt P n m env σ ⟨dd, .binOp .eql xT x y yT, ty, pos, after, g⟩ (.bool b) :=
  arx (neq := false) ht hok hi hd hx hy hin he rfl
theorem lh {dd : Option Nat} {ty : TypeId} {pos : String} {after : Array Edge} {g : Option (Nat × Bool)} (ht : oq P tt) {ok : List Nat} (hok : aj4 P ok = true) {xT yT : TypeId} {x y : Operand} {i : TI} {fs : Array Field} {xs ys : List PV} {b : Bool} (hi : tl tt xT = some i) (hd : i.desc = .struct fs)
    (hx : opv tt env xT x = .agg xs) (hy : opv tt env yT y = .agg ys) (hin : ok.any (Nat.beq xT) = true) (he : ai2 tt ok 9 xT (.agg xs) (.agg ys) = some b) : LookAt P n m env σ ⟨dd, .binOp .neq xT x y yT, ty, pos, after, g⟩ (.bool (!b)) :=
  arx (neq := true) ht hok hi hd hx hy hin he rfl
end
end Go.Proofs.Ytbpjaiemlkcccaa.Pv
end
section
/- Rows in boxes: cells written into a box; a box that turns no more; a slice of one's own that becomes a box. -/
namespace Go.Proofs.Ytbpjaiemlkcccaa.Pv
open Go
section
variable {P : Program} {n m : Nat} {F : Fr} {G : Gh} {env : Env} {σ : Sto} {a : Act} {w : World}
theorem Sim.boxWrite (hs : Sim n m F G env σ a w) {i : Nat} {cs : List PV} (hi : σ[i]? = some (.cells cs)) (off : Nat) (vs : List Value) (ps : List PV) (hl : vs.length = ps.length)
    (hr : ∀ (j : Nat) v c, vs[j]? = some v → ps[j]? = some c → RepS G w v c) (hlt : o6 σ.length ps) (h1 : ps.all PV.one = true) (hoff : off + ps.length ≤ cs.length) :
    (storeCells ⟨G.bs i, off, none⟩ vs 0).run P w = .ok () (w.setCells (G.bs i) off vs) ∧ Sim n m F G env (σ.set i (.cells (putAt cs off ps))) a (w.setCells (G.bs i) off vs) ∧ Evol m F G w G (w.setCells (G.bs i) off vs) := by
  obtain ⟨hK, hsp, hcell⟩ := hs.sto i _ hi
  have hst := hs.stolt i _ hi
  simp only [Ent.lt] at hst
  obtain ⟨⟨arr, T, fz, a1, a2, a3⟩, hshB, hnfB⟩ := hsp
  have hthere : ∀ j, j < cs.length → (w.cell? ⟨G.bs i, j, none⟩).isSome = true := fun j hj => by
    obtain ⟨v, hv, _⟩ := hcell j cs[j] (by simp [hj])
    rw [hv]; rfl
  have hrun := run_storeCells_cells (P := P) (G.bs i) off vs 0 w (fun j hj => by rw [Nat.add_zero]; exact hthere _ (by omega)) (fun j hj => by rw [Nat.add_zero]; exact a3 _ (Nat.zero_le _) (by omega)) (fun v hv => by
    obtain ⟨j, hj, rfl⟩ := List.getElem_of_mem hv
    have hj' : j < ps.length := by omega
    have := hr j vs[j] ps[j] (by simp) (by simp [hj'])
    exact (RepO.one (.sh this) (List.all_eq_true.1 h1 _ (List.getElem_mem hj'))).1)
  rw [Nat.add_zero] at hrun
  obtain ⟨q1, q2⟩ := aax cs off ps hoff
  have hnew : ∀ j c, (putAt cs off ps)[j]? = some c → ∃ v, (w.setCells (G.bs i) off vs).cell? ⟨G.bs i, j, none⟩ = some v ∧ RepO G w v c ∧ ((off ≤ j ∧ j < off + ps.length ∧ ownB v c = none) ∨ (cs[j]? = some c ∧ w.cell? ⟨G.bs i, j, none⟩ = some v)) := by
    intro j c hc
    rw [q2] at hc
    split at hc
    · rename_i hj
      have hjl : j - off < vs.length := by omega
      have := World.cell?_setCells_in (G.bs i) vs off w (fun j hj => hthere _ (by omega)) (j - off) hjl
      rw [show off + (j - off) = j by omega] at this
      have hR := hr (j - off) vs[j - off] c (by simp [hjl]) hc
      exact ⟨_, this, .sh hR, .inl ⟨hj.1, hj.2, yz hR⟩⟩
    · rename_i hj
      obtain ⟨v, hv, hR⟩ := hcell j c hc
      exact ⟨v, by rw [World.cell?_setCells_out _ _ _ _ _ (fun _ _ => by simp only; omega)]; exact hv, hR, .inr ⟨hc, hv⟩⟩
  obtain ⟨s1, s2, s3, s4⟩ := aef (G.bs i) vs off w
  refine ⟨hrun, ?_, Evol.boxSet hs hi off _⟩
  exact hs.boxSet (cs' := putAt cs off ps) hi s1 (fun b hb => zb _ _ _ _ _ hb) (af7 ⟨⟨arr, T, fz, a1, by rw [q1]; exact a2, fun j hj hk => a3 j hj (by omega)⟩, hshB, hnfB⟩ _ _ _) (by
      rw [mo]; intro c hc
      obtain ⟨j, hj, rfl⟩ := List.getElem_of_mem hc
      have hc' := q2 j
      rw [List.getElem?_eq_getElem hj] at hc'
      split at hc'
      · exact mo.1 hlt _ (List.mem_of_getElem? hc'.symm)
      · exact mo.1 hst _ (List.mem_of_getElem? hc'.symm)) (fun j c hc => let ⟨v, h1, h2, _⟩ := hnew j c hc; ⟨v, h1, h2⟩) (fun j v c b hv hc hb => by
      obtain ⟨v', h1, _, h3⟩ := hnew j c hc
      rw [hv] at h1; cases h1
      rcases h3 with ⟨_, _, h3⟩ | ⟨h3, h4⟩
      · rw [h3] at hb; cases hb
      · have := uf (env := env) (a := a) hi h3 h4 hb
        exact ⟨hs.fr _ b this, fun l' hl' => hs.uniq _ _ b hl' this⟩) (fun j j' v c v' c' b hv hc hb hv' hc' hb' => by
      obtain ⟨u, h1, _, h3⟩ := hnew j c hc
      obtain ⟨u', h1', _, h3'⟩ := hnew j' c' hc'
      rw [hv] at h1; cases h1
      rw [hv'] at h1'; cases h1'
      rcases h3 with ⟨_, _, h3⟩ | ⟨h3, h4⟩
      · rw [h3] at hb; cases hb
      · rcases h3' with ⟨_, _, h3'⟩ | ⟨h3', h4'⟩
        · rw [h3'] at hb'; cases hb'
        · have := hs.uniq _ _ b (uf (env := env) (a := a) hi h3 h4 hb) (uf (env := env) (a := a) hi h3' h4' hb')
          cases this; rfl)
def Frz (i : Nat) (cs : List PV) (p' p : PV) : Prop :=
  p' = .dead ∨ p' = p ∨ ∃ off sz len cap es, (p = .bsl i off sz len cap ∨ p = .xsl i off sz len cap) ∧ p' = .sl .sh sz es ∧ es.length = len ∧ (∀ e ∈ es, e.cells.length = sz) ∧ off + len * sz ≤ cs.length ∧ ∀ (j : Nat) c, (flat es)[j]? = some c → cs[off + j]? = some c
def axy (i : Nat) (cs : List PV) (e' e : Ent) : Prop :=
  e' = e ∨ ∃ ds ds', e = .cells ds ∧ e' = .cells ds' ∧ ds'.length = ds.length ∧ ∀ (k : Nat) c', ds'[k]? = some c' → ∃ c, ds[k]? = some c ∧ Frz i cs c' c
theorem Frz.lt {i k : Nat} {cs : List PV} {p' p : PV} (h : Frz i cs p' p) (hl : p.lt k) : p'.lt k := by
  rcases h with rfl | rfl | ⟨off, sz, len, cap, es, _, rfl, _⟩
  · trivial
  · exact hl
  · trivial
theorem Frz.own {i : Nat} {cs : List PV} {p' p : PV} (h : Frz i cs p' p) (v : Value) (b : Nat) (ho : ownB v p' = some b) : p' = p := by
  rcases h with rfl | rfl | ⟨off, sz, len, cap, es, _, rfl, _⟩
  · rw [aaf] at ho; cases ho
  · rfl
  · exfalso; revert ho; unfold ownB; split <;> simp_all
theorem Frz.ownS {i : Nat} {cs : List PV} {p' p : PV} (h : Frz i cs p' p) (v : Value) (j b : Nat) (ho : o8 v p' j = some b) : p' = p := by
  rcases h with rfl | rfl | ⟨off, sz, len, cap, es, _, rfl, _⟩
  · rw [zn] at ho; cases ho
  · rfl
  · exfalso; unfold o8 at ho; cases v <;> simp [ownB] at ho
theorem Sim.freeze (h : Sim n m F G env σ a w) {i : Nat} {cs rest : List PV} (hi : σ[i]? = some (.cells (cs ++ rest))) (hpl : ∀ c ∈ cs, c.pl = true) {env' : Env} (he : ∀ t, Frz i cs (look env' t) (look env t))
    {σ' : Sto} (hl : σ'.length = σ.length) (hg : σ'[i]? = some .gone) (hσ : ∀ (j : Nat) e', j ≠ i → σ'[j]? = some e' → ∃ e, σ[j]? = some e ∧ axy i cs e' e) :
    Sim n m F ⟨upd G.K (G.bs i) (.imm cs.length), G.bs⟩ env' σ' a w ∧ Evol m F G w ⟨upd G.K (G.bs i) (.imm cs.length), G.bs⟩ w := by
  obtain ⟨hK, hsp, hcell⟩ := h.sto i _ hi
  have hnF : ¬ F (G.bs i) := h.inj i _ hi (.inl ⟨_, rfl⟩)
  have hKne : ∀ (b : Nat) k, G.K b = k → (∀ j, k ≠ .box j) → upd G.K (G.bs i) (.imm cs.length) b = G.K b := fun b k hb hk => upd_ne _ _ fun e => hk i (by rw [← hb, e, hK])
  have hle : wh G.K w (upd G.K (G.bs i) (.imm cs.length)) w := fun b p hb => ⟨p, ⟨Nat.le_refl _, rfl⟩, by rw [hKne b _ hb (by simp)]; exact hb, fun _ _ => rfl⟩
  have hownK : ∀ v p b, RepO G w v p → ownB v p = some b → upd G.K (G.bs i) (.imm cs.length) b = G.K b := fun v p b hr hb => by
    rcases adt hr hb with e | ⟨q, e⟩
    · exact hKne b _ e (by simp)
    · exact hKne b _ e (by simp)
  have monoO : ∀ v p k, RepO G w v p → p.lt k → RepO ⟨upd G.K (G.bs i) (.imm cs.length), G.bs⟩ w v p := fun v p k hr hlt => hr.mono (n := k) hle (fun _ _ => rfl) hlt fun b hb => ⟨rfl, hownK v p b hr hb⟩
  have hvals : ∀ j : Nat, ∃ v, j < cs.length → w.cell? ⟨G.bs i, j, none⟩ = some v ∧ ∀ c, cs[j]? = some c → RepP (upd G.K (G.bs i) (.imm cs.length)) w v c := by
    intro j
    by_cases hj : j < cs.length
    · obtain ⟨v, h1, h2⟩ := hcell j cs[j] (by rw [List.getElem?_append_left hj]; simp)
      refine ⟨v, fun _ => ⟨h1, fun c hc => ?_⟩⟩
      have hcc : c = cs[j] := by simpa [hj] using hc.symm
      subst hcc
      exact ((h2.toS (ajx (hpl _ (List.getElem_mem hj)))).plain (hpl _ (List.getElem_mem hj))).mono hle
    · exact ⟨undef, fun h => absurd h hj⟩
  obtain ⟨vs, hvs⟩ := Classical.axiomOfChoice hvals
  have frz : ∀ v p p' k, RepO G w v p → Frz i cs p' p → p.lt k → RepO ⟨upd G.K (G.bs i) (.imm cs.length), G.bs⟩ w v p' := by
    intro v p p' k hr hf hlt
    rcases hf with rfl | rfl | ⟨off, sz, len, cap, es, hp, rfl, hel, hes, hoff, hfl⟩
    · exact .dead _
    · exact monoO _ _ _ hr hlt
    · have hr : ∃ ad cap', v = .slice ad len cap' ∧ len ≤ cap' ∧ (len = 0 ∨ ad = some ⟨G.bs i, off, none⟩) := by
        rcases hp with rfl | rfl
        · obtain ⟨ad, cap', rfl, c1, c2, c3⟩ := (hr.toS rfl).bslv
          exact ⟨ad, cap', rfl, by omega, c3.imp_left fun h => by omega⟩
        · obtain ⟨ad, rfl, c1, c3⟩ := (hr.toS rfl).xslv
          exact ⟨ad, cap, rfl, c1, c3.imp (fun h => by omega) (·.1)⟩
      obtain ⟨ad, cap', rfl, c1, c3⟩ := hr
      by_cases h0 : len = 0
      · subst h0
        have : es = [] := List.length_eq_zero_iff.1 hel
        subst this
        exact .sh (.pl (.sl0 _ _ _))
      · have c3 := c3.resolve_left (by omega)
        subst c3
        subst hel
        refine .sh (.pl (.sl ⟨G.bs i, off, none⟩ cap' sz cs.length es (fun j => vs (off + j)) rfl (upd_same _ _ _) hoff (by omega) hes (fun j hj => (hvs (off + j) (by omega)).1) fun j c hc => ?_))
        have := hfl j c hc
        exact (hvs (off + j) (List.getElem?_eq_some_iff.1 this).1).2 c this
  have frzS : ∀ t, Rep ⟨upd G.K (G.bs i) (.imm cs.length), G.bs⟩ w (a.tmps.getD t undef) (look env' t) := by
    intro t
    have hr := h.rep t
    have hlt := h.envlt t
    rcases he t with e | e | ⟨off, sz, len, cap, es, e1, e2, q⟩
    · rw [e]; exact .one (.dead _)
    · rw [e]
      refine hr.mono (n := σ.length) hle (fun _ _ => rfl) hlt fun j b hb => ⟨rfl, ?_⟩
      have := adi h (l := .slot t j) hb
      rcases this with e | ⟨q, e⟩
      · exact hKne b _ e (by simp)
      · exact hKne b _ e (by simp)
    · exact .one (frz _ _ _ σ.length (hr.toO fun ps h => by rcases e1 with e1 | e1 <;> (rw [e1] at h; cases h)) (by rw [e2]; exact .inr (.inr ⟨off, sz, len, cap, es, e1, rfl, q⟩)) hlt)
  have hne : ∀ j e, j ≠ i → σ[j]? = some e → (∃ c, e = .cells c) ∨ (∃ x y z u, e = .loop x y z u) → (G.bs j).b ≠ (G.bs i).b := fun j e hj hs hc e' => by
    have : G.K (G.bs j) = .box j := by rcases hc with ⟨c, rfl⟩ | ⟨x, y, z, u, rfl⟩ <;> exact (h.sto j _ hs).1
    rw [e', hK] at this
    cases this; exact hj rfl
  have hEK : ∀ (b : Nat) i', G.K b = .box i' → b ≠ (G.bs i).b → upd G.K (G.bs i) (.imm cs.length) b = .box i' := fun b i' hb hn => by rw [upd_ne _ _ hn]; exact hb
  have key : ∀ l b, nz ⟨upd G.K (G.bs i) (.imm cs.length), G.bs⟩ env' σ' a.tmps w l = some b → nz G env σ a.tmps w l = some b := by
    intro l b hl'
    cases l with
    | slot t j =>
      simp only [nz] at hl' ⊢
      rw [← (he t).ownS _ _ _ hl']; exact hl'
    | cell k j =>
      simp only [nz] at hl' ⊢
      by_cases hk : k = i
      · subst hk; rw [hg] at hl'; cases hl'
      · cases hk' : σ'[k]? with
        | none => rw [hk'] at hl'; cases hl'
        | some e' =>
          obtain ⟨e, h1, h2⟩ := hσ k e' hk hk'
          rw [hk'] at hl'
          rw [h1]
          rcases h2 with rfl | ⟨ds, ds', rfl, rfl, _, h3⟩
          · exact hl'
          · simp only at hl' ⊢
            split at hl'
            · rename_i c v hc hv
              obtain ⟨c0, h4, h5⟩ := h3 j c hc
              have e5 := h5.own v b hl'
              subst e5
              simp only [h4, hv]; exact hl'
            · cases hl'
  refine ⟨⟨h.size, frzS, fun t => by rw [hl]; exact (he t).lt (h.envlt t), fun k e' hk => ?_, fun k e' hk => ?_, fun b hb => ?_, fun k e' hk hc => ?_, fun l1 l2 b h1 h2 => h.uniq l1 l2 b (key _ _ h1) (key _ _ h2), fun l b hl' => h.fr l b (key _ _ hl'), h.frlt, ?_, h.markF, by rw [hl]; exact h.floor⟩, ?_⟩
  · by_cases hki : k = i
    · subst hki; rw [hg] at hk; cases hk; trivial
    · obtain ⟨e, h1, h2⟩ := hσ k e' hki hk
      have h0 := h.sto k e h1
      have hlt0 := h.stolt k e h1
      rcases h2 with rfl | ⟨ds, ds', rfl, rfl, h3, h4⟩
      · cases e' with
        | cells cs' =>
          obtain ⟨g1, g2, g3⟩ := h0
          refine ⟨hEK _ _ g1 (hne k _ hki h1 (.inl ⟨_, rfl⟩)), g2, fun j c hc => ?_⟩
          obtain ⟨v, hv, hR⟩ := g3 j c hc
          exact ⟨v, hv, monoO _ _ σ.length hR (mo.1 hlt0 c (List.mem_of_getElem? hc))⟩
        | gone => trivial
        | loop x y z u =>
          obtain ⟨g1, g2, g3⟩ := h0
          exact ⟨hEK _ _ g1 (hne k _ hki h1 (.inr ⟨_, _, _, _, rfl⟩)), g2, fun t => (g3 t).imp_right fun hr => hr.mono hle (fun _ _ => rfl) (hlt0 t)⟩
      · obtain ⟨g1, g2, g3⟩ := h0
        refine ⟨hEK _ _ g1 (hne k _ hki h1 (.inl ⟨_, rfl⟩)), by rw [h3]; exact g2, fun j c' hc' => ?_⟩
        obtain ⟨c, h5, h6⟩ := h4 j c' hc'
        obtain ⟨v, hv, hR⟩ := g3 j c h5
        exact ⟨v, hv, frz _ _ _ σ.length hR h6 (mo.1 hlt0 c (List.mem_of_getElem? h5))⟩
  · rw [hl]
    by_cases hki : k = i
    · subst hki; rw [hg] at hk; cases hk; trivial
    · obtain ⟨e, h1, h2⟩ := hσ k e' hki hk
      have hlt0 := h.stolt k e h1
      rcases h2 with rfl | ⟨ds, ds', rfl, rfl, h3, h4⟩
      · exact hlt0
      · simp only [Ent.lt] at hlt0 ⊢
        rw [mo]
        intro c' hc'
        obtain ⟨j, hj, rfl⟩ := List.getElem_of_mem hc'
        obtain ⟨c, h5, h6⟩ := h4 j ds'[j] (by simp [hj])
        exact h6.lt (mo.1 hlt0 c (List.mem_of_getElem? h5))
  · by_cases e : b = (G.bs i).b
    · subst e; exact h.kfree _ (by rw [hK]; simp)
    · simp only [upd_ne _ _ e] at hb; exact h.kfree b hb
  · by_cases hki : k = i
    · subst hki; rw [hg] at hk; cases hk; rcases hc with ⟨c, e⟩ | ⟨x, y, z, u, e⟩ <;> cases e
    · obtain ⟨e, h1, h2⟩ := hσ k e' hki hk
      rcases h2 with rfl | ⟨ds, ds', rfl, rfl, h3, h4⟩
      · exact h.inj k _ h1 hc
      · exact h.inj k _ h1 (.inl ⟨_, rfl⟩)
  · refine h.marks.mono fun d hd b hb => ⟨rfl, ?_⟩
    exact hKne _ _ (h.marks.kind d hd b hb).2.1 (by simp)
  · exact ⟨rfl, rfl, rfl, Nat.le_refl _, fun b hb => ⟨rfl, upd_ne _ _ fun e => hnF (e ▸ hb)⟩, hle, fun _ _ => rfl⟩
end
end Go.Proofs.Ytbpjaiemlkcccaa.Pv
end
section
/- Slices of rows of like elements; rows in boxes: made, sliced, read, written, copied, cleared, turned into texts. -/
namespace Go.Proofs.Ytbpjaiemlkcccaa.Pv
open Go
section
variable {P : Program} {l : Option Nat} {tt : TT} {n m : Nat} {all : Array Oper} {rest : List Oper} {env : Env} {σ : Sto} {Q : Post} {d : Nat} {dd : Option Nat} {ty : TypeId} {pos : String} {after : Array Edge} {g : Option (Nat × Bool)}
theorem ars {α : Type} (xs : List α) {a b : Nat} : (xs.take b).drop a = (xs.drop a).take (b - a) := by rw [List.drop_take]
theorem ap7 {α : Type} (f : α → PV) (ht : oq P tt) {t : TypeId} {x : Operand} {lo hi : Option Operand} {e : TI} {sz : Nat} {xs : List α} {a b : Int} (he : eti tt t = some e) (hx : opv tt env t x = .sl .sh sz (xs.map f)) (hsz : Nat.beq e.size sz = true)
    (ha : aat tt env lo 0 = some a) (hb : aat tt env hi xs.length = some b) (hc : 0 ≤ a ∧ a ≤ b ∧ b ≤ xs.length) : LookAt P n m env σ ⟨dd, .slice t x lo hi none, ty, pos, after, g⟩ (.sl .sh sz (((xs.take b.toNat).drop a.toNat).map f)) := by
  unfold eti at he
  split at he
  · rename_i eT s1 b1 z1 hT
    refine jh ht (c := 0 ≤ a ∧ a ≤ b ∧ b ≤ ((xs.map f).length : Int) ∧ e.size = sz) ?_ ⟨hc.1, hc.2.1, by simpa using hc.2.2, Nat.eq_of_beq_eq_true hsz⟩
    simp only [am8, hT, hx, ha, he, List.length_map, hb, ars, List.map_take, List.map_drop]
  · cases he
theorem eu {α : Type} (f : α → PV) (ht : oq P tt) {t : TypeId} {x hi : Operand} {e : TI} {sz : Nat} {xs : List α} {b : Int} (he : eti tt t = some e) (hx : opv tt env t x = .sl .sh sz (xs.map f)) (hsz : Nat.beq e.size sz = true)
    (hb : aat tt env (some hi) 0 = some b) (hc : 0 ≤ b ∧ b ≤ xs.length) : LookAt P n m env σ ⟨dd, .slice t x none (some hi) none, ty, pos, after, g⟩ (.sl .sh sz ((xs.take b.toNat).map f)) := by
  have := ap7 (dd := dd) (n := n) (m := m) (σ := σ) (ty := ty) (pos := pos) (after := after) (g := g) f ht (lo := none) (hi := some hi) he hx hsz (a := 0) rfl (by simpa [aat] using hb) ⟨by omega, hc.1, hc.2⟩
  simpa using this
theorem jy (ht : oq P tt) {t tI : TypeId} {x i : Operand} {e : TI} {b off len cap : Nat} {k : IntKind} {z : Int} (he : eti tt t = some e) (hx : opv tt env t x = .bsl b off 1 len cap) (hi : opv tt env tI i = .int k z) (hsz : Nat.beq e.size 1 = true)
    (hc : 0 ≤ z ∧ z < len) : LookAt P n m env σ ⟨dd, .indexAddr t x i, ty, pos, after, g⟩ (.ptr b (off + z.toNat)) := by
  refine LookAt.norm (LookAt.of (fun F G a w hs => acv (tI := tI) ht hs) (c := 1 = e.size ∧ 0 ≤ z ∧ z < len) ?_ ⟨(Nat.eq_of_beq_eq_true hsz).symm, hc⟩)
  rw [hx, hi]
  simp only [acy, he, Nat.mul_one]
end
end Go.Proofs.Ytbpjaiemlkcccaa.Pv
end
section
/- Regions that draw their order: operations that leave the store as it is (calls among them), then a tail that stands behind all of them. -/
namespace Go.Proofs.Ytbpjaiemlkcccaa.Pv
open Go
def covers (ops : List Oper) : Nat → Nat → Nat → Bool
  | 0, _, _ => false
  | f + 1, i, j => match ops[i]? with
    | none => false
    | some o => (o.after.toList.any fun e => Region.binds .any e && Nat.beq e.on j) || (o.after.toList.any fun e => Region.binds .any e && (Nat.ble (e.on + 1) i && covers ops f e.on j))
def xu (ops : List Oper) (k : Nat) : Bool :=
  Nat.ble k ops.length && ((List.range ops.length).all fun i => Nat.ble (i + 1) k || ((List.range i).all fun j => covers ops 30 i j) && (match ops[i]? with | some o => (o.after.toList.all fun e => !Region.binds .any e || Nat.ble (e.on + 1) i) | none => false))
theorem afe {e : Edge} {i : Nat} (h : (!Region.binds .any e || Nat.ble (e.on + 1) i) = true) (hb : Region.binds .any e = true) : e.on < i := by
  rw [hb] at h; exact nlb h
def ae9 (ops : List Oper) (k : Nat) : Bool :=
  (List.range k).all fun i => match ops[i]? with
    | none => false
    | some o => !agl o.op && (o.after.toList.all fun e => !Region.binds .any e || Nat.ble (e.on + 1) i) &&
        (List.range k).all fun j => match ops[j]? with
          | none => false
          | some o' => (Nat.beq i j || !Nat.beq (o.dst.getD 1000000) (o'.dst.getD 1000000)) && ((readsOf ops.toArray o).all fun t => !Nat.beq (o'.dst.getD 1000000) t || ((Nat.ble (j + 1) i && ace o j) || (Nat.ble (i + 1) j && ace o' i)))
theorem ado {F : Fence} {n : Nat} {P : Program} {o : Oper} {a : Act} {w : World} {K K' : Act → World → Prop} {Q Q' : Exit → Act → World → Prop} (hK : ∀ a w, K a w → K' a w) (hQ : ∀ e a w, e ≠ .normal → Q e a w → Q' e a w)
    (h : o.wpIn F n P a w K Q) : o.wpIn F n P a w K' Q' := by
  refine ⟨h.1, ?_⟩
  have h := h.2
  generalize (o.semAt F.round a.eval).run P w = rr at h
  cases rr with
  | ok x w' =>
    cases x <;> simp only [Oper.uponIn] at h ⊢ <;>
      first
        | exact hK _ _ h
        | exact hQ _ _ _ (by simp) h
        | exact ⟨h.1, CallsIn.mono h.2 (fun e w'' he => by cases e <;> first | exact hK _ _ he | exact hQ _ _ _ (by simp) he | (obtain ⟨a0, w0, h0⟩ := he; exact ⟨a0, w0, hQ _ _ _ (by simp) h0⟩))⟩
        | exact ⟨h.1, RowsIn.mono h.2 (fun _ _ he => hK _ _ he)⟩
        | exact ⟨h.1, RoundIn.mono h.2 (fun e w'' he => by cases e <;> first | exact hK _ _ he | exact hQ _ _ _ (by simp) he | (obtain ⟨a0, w0, h0⟩ := he; exact ⟨a0, w0, hQ _ _ _ (by simp) h0⟩))⟩
  | halt x w' => cases x <;> simp only [Oper.uponIn] at h ⊢ <;> first | exact h | exact hQ _ _ _ (by simp) h
structure StepC (P : Program) (l : Option Nat) (n m : Nat) (all : Array Oper) (env : Env) (σ : Sto) (o : Oper) (p : PV) : Prop where
  go : ∀ (env0 : Env), (∀ t ∈ readsOf all o, look env0 t = look env t) → ∀ F G a w, Sim n m F G env0 σ a w → ∀ (i : Nat) (K : Act → World → Prop) (Q' : Exit → Act → World → Prop), all[i]? = some o →
    (∀ a' w' G', Sim n m F G' ((o.dst.getD 1000000, p) :: env0) σ a' w' → Evol m F G w G' w' → K a' w') → wpOpIn (Wd l) 0 P all Q' i K a w
def alv (P : Program) (l : Option Nat) (n m : Nat) (all : Array Oper) (σ : Sto) : Env → List Oper → List PV → Prop
  | _, [], [] => True
  | env, o :: os, p :: ps => StepC P l n m all env σ o p ∧ alv P l n m all σ ((o.dst.getD 1000000, p) :: env) os ps
  | _, _, _ => False
section
variable {P : Program} {l : Option Nat} {n m : Nat} {σ : Sto} {Q : Post}
theorem akv {all : Array Oper} : ∀ (ops : List Oper) (ps : List PV) (env : Env), alv P l n m all σ env ops ps → ps.length = ops.length ∧ ∀ (i : Nat) o, ops[i]? = some o → ∃ p, ps[i]? = some p ∧ StepC P l n m all (yx env (ops.take i) (ps.take i)) σ o p
  | [], [], _, _ => ⟨rfl, fun i o h => by simp at h⟩
  | o :: os, p :: ps, env, h => by
    obtain ⟨h1, h2⟩ := h
    obtain ⟨k1, k2⟩ := akv os ps _ h2
    refine ⟨by simp [k1], fun i o' hi => ?_⟩
    cases i with
    | zero => simp at hi; subst hi; exact ⟨p, rfl, h1⟩
    | succ i =>
      simp at hi
      obtain ⟨p', e1, e2⟩ := k2 i o' hi
      exact ⟨p', by simpa using e1, by simpa only [List.take_succ_cons, yx] using e2⟩
  | [], _ :: _, _, h => h.elim
  | _ :: _, [], _, h => h.elim
structure DrawFacts2 (ops : List Oper) (k i : Nat) (o : Oper) : Prop where
  back : ∀ e ∈ o.after.toList, Region.binds .any e = true → e.on < i
  one : ∀ j o', j < k → ops[j]? = some o' → o.dst.getD 1000000 = o'.dst.getD 1000000 → i = j
  reads : ∀ t ∈ readsOf ops.toArray o, ∀ j o', j < k → ops[j]? = some o' → o'.dst.getD 1000000 = t → (j < i ∧ ace o j = true) ∨ (i < j ∧ ace o' i = true)
theorem aag {ops : List Oper} {k : Nat} (h : ae9 ops k = true) {i : Nat} {o : Oper} (hik : i < k) (hi : ops[i]? = some o) : DrawFacts2 ops k i o := by
  have h1 := ut h hik
  simp only [hi, Bool.and_eq_true] at h1
  obtain ⟨⟨h2, h3⟩, h4⟩ := h1
  have h5 : ∀ j o', j < k → ops[j]? = some o' → ((Nat.beq i j || !Nat.beq (o.dst.getD 1000000) (o'.dst.getD 1000000)) && ((readsOf ops.toArray o).all fun t => !Nat.beq (o'.dst.getD 1000000) t || ((Nat.ble (j + 1) i && ace o j) || (Nat.ble (i + 1) j && ace o' i)))) = true := by
    intro j o' hjk hj
    have := ut h4 hjk
    simpa only [hj] using this
  refine ⟨fun e he hb => afe (List.all_eq_true.1 h3 e he) hb, fun j o' hjk hj e => ?_, fun t ht j o' hjk hj e => ?_⟩
  · have e2 := h5 j o' hjk hj
    simp only [Bool.and_eq_true, Bool.or_eq_true] at e2
    rcases e2.1 with e3 | e3
    · exact Nat.eq_of_beq_eq_true e3
    · rw [e] at e3; simp at e3
  · have e2 := h5 j o' hjk hj
    simp only [Bool.and_eq_true] at e2
    have := List.all_eq_true.1 e2.2 t ht
    simp only [e, Bool.or_eq_true, Bool.and_eq_true] at this
    rcases this with h6 | h6 | h6
    · simp at h6
    · exact .inl ⟨nlb h6.1, h6.2⟩
    · exact .inr ⟨nlb h6.1, h6.2⟩
def Closed (ops : List Oper) (listed : Array Bool) : Prop :=
  ∀ i o, ops[i]? = some o → listed.getD i true = true → ∀ e ∈ o.after.toList, Region.binds .any e = true → listed.getD e.on true = true
theorem aap {ops : List Oper} {listed : Array Bool} {i : Nat} (h1 : listed.size = ops.length) (h2 : i < ops.length) : listed.getD i false = listed.getD i true := by
  simp [Array.getD_eq_getD_getElem?, h1, h2]
theorem ab8 {ops : List Oper} {listed : Array Bool} (hc : Closed ops listed) (hsz : listed.size = ops.length) : ∀ (f i j : Nat) (o : Oper), ops[i]? = some o → covers ops f i j = true →
    (∀ e ∈ o.after.toList, Region.binds .any e = true → listed.getD e.on true = true) → listed.getD j true = true := by
  intro f
  induction f with
  | zero => intro i j o _ h; cases h
  | succ f ih =>
    intro i j o hi h hr
    simp only [covers, hi, Bool.or_eq_true, List.any_eq_true, Bool.and_eq_true] at h
    rcases h with ⟨e, h1, h2, h3⟩ | ⟨e, h1, h2, h3, h4⟩
    · rw [← Nat.eq_of_beq_eq_true h3]; exact hr e h1 h2
    · have hon := hr e h1 h2
      cases ho' : ops[e.on]? with
      | none => cases f <;> simp [covers, ho'] at h4
      | some o' => exact ih e.on j o' ho' h4 (hc e.on o' ho' hon)
theorem yt {listed : Array Bool} {i : Nat} (hi : i < listed.size) (j : Nat) : (listed.setIfInBounds i true).getD j true = if j = i then true else listed.getD j true := by
  simp only [Array.getD_eq_getD_getElem?, Array.getElem?_setIfInBounds]
  by_cases e : j = i
  · subst e; simp [hi]
  · simp [e, Ne.symm e]
theorem Closed.set {ops : List Oper} {listed : Array Bool} (hc : Closed ops listed) {i : Nat} {o : Oper} (hsz : i < listed.size) (hi : ops[i]? = some o) (hr : ∀ e ∈ o.after.toList, Region.binds .any e = true → listed.getD e.on true = true) :
    Closed ops (listed.setIfInBounds i true) := by
  intro j oj hj hl e he hb
  rw [yt hsz]
  split
  · rfl
  · by_cases e' : j = i
    · subst e'; rw [hi] at hj; cases hj; exact hr e he hb
    · rw [yt hsz, if_neg e'] at hl; exact hc j oj hj hl e he hb
theorem ag4 {ops : List Oper} {k : Nat} (ht : xu ops k = true) {Q' : Exit → Act → World → Prop} : ∀ (fuel i : Nat) (listed : Array Bool) (a : Act) (w : World), k ≤ i → i ≤ ops.length → ops.length - i ≤ fuel → listed.size = ops.length → Closed ops listed →
    (∀ j, j < ops.length → (listed.getD j true = true ↔ j < i)) → wpListIn (Wd l) 0 P ops.toArray Q' (ops.drop i) a w → wpAnyIn (Wd l) 0 P .any ops.toArray Q' fuel listed a w := by
  have ht := ht
  simp only [xu, Bool.and_eq_true] at ht
  obtain ⟨ht1, ht2⟩ := ht
  have hop : ∀ i o, k ≤ i → ops[i]? = some o → (∀ j, j < i → covers ops 30 i j = true) ∧ ∀ e ∈ o.after.toList, Region.binds .any e = true → e.on < i := by
    intro i o hki hi
    have := ut ht2 (List.getElem?_eq_some_iff.1 hi).1
    simp only [Bool.or_eq_true, Bool.and_eq_true, hi] at this
    rcases this with h | ⟨h1, h2⟩
    · have := nlb h; omega
    · exact ⟨fun j hj => ut h1 hj, fun e he hb => afe (List.all_eq_true.1 h2 e he) hb⟩
  intro fuel
  induction fuel with
  | zero =>
    intro i listed a w hki hil hfu hsz hc hl h
    have hi : i = ops.length := by omega
    subst hi
    refine ⟨?_, by simpa [wpListIn] using h⟩
    cases hrr : Region.ready .any ops.toArray listed with
    | nil => rfl
    | cons j r =>
      have hm : j ∈ Region.ready .any ops.toArray listed := by rw [hrr]; exact List.mem_cons_self
      obtain ⟨o, ho, hlj, _⟩ := mem_ready.1 hm
      have := (hl j (List.getElem?_eq_some_iff.1 ho).1).2 (List.getElem?_eq_some_iff.1 ho).1
      rw [this] at hlj; cases hlj
  | succ fuel ih =>
    intro i listed a w hki hil hfu hsz hc hl h
    have hready : ∀ j, j ∈ Region.ready .any ops.toArray listed → j = i := by
      intro j hr
      obtain ⟨o, hj, hlj, hrdy⟩ := mem_ready.1 hr
      have hjl := (List.getElem?_eq_some_iff.1 hj).1
      have hge : ¬ j < i := fun hlt => by rw [(hl j hjl).2 hlt] at hlj; cases hlj
      rcases Nat.lt_or_ge i j with hlt | hle
      · exfalso
        obtain ⟨c1, c2⟩ := hop j o (by omega) hj
        have := ab8 hc hsz 30 j i o hj (c1 i hlt) fun e he hb => by
          have h1 := hrdy e he hb
          rw [aap hsz (by have := c2 e he hb; omega)] at h1; exact h1
        exact Nat.lt_irrefl _ ((hl i (by omega)).1 this)
      · omega
    rcases Nat.lt_or_ge i ops.length with hlt | hge
    · have ho : ops[i]? = some ops[i] := by simp [hlt]
      obtain ⟨c1, c2⟩ := hop i _ hki ho
      have hin : i ∈ Region.ready .any ops.toArray listed := mem_ready.2 ⟨_, ho, by
          cases hb : listed.getD i true with
          | false => rfl
          | true => exact absurd ((hl i hlt).1 hb) (Nat.lt_irrefl _), fun e he hb => by
          have := c2 e he hb
          rw [aap hsz (by omega)]; exact (hl e.on (by omega)).2 this⟩
      refine ⟨fun hr => (by rw [hr] at hin; cases hin), fun j hj => ?_⟩
      obtain rfl := hready j hj
      have hd : ops.drop j = ops[j] :: ops.drop (j + 1) := List.drop_eq_getElem_cons hlt
      rw [hd] at h
      have hnext : ∀ a w, wpListIn (Wd l) 0 P ops.toArray Q' (ops.drop (j + 1)) a w → wpAnyIn (Wd l) 0 P .any ops.toArray Q' fuel (listed.setIfInBounds j true) a w := fun a w h' =>
        ih (j + 1) _ a w (by omega) (by omega) (by omega) (by simpa using hsz) (hc.set (by omega) ho fun e he hb => (hl e.on (by have := c2 e he hb; omega)).2 (c2 e he hb)) (fun x hx => by
          rw [yt (by omega)]
          by_cases e : x = j
          · subst e; simp
          · rw [if_neg e]
            constructor
            · intro h1; have := (hl x hx).1 h1; omega
            · intro h1; exact (hl x hx).2 (by omega)) h'
      unfold wpOpIn
      simp only [List.getElem?_toArray, ho]
      simp only [wpListIn] at h
      split
      · rename_i hw; rw [if_pos hw] at h; exact Oper.wpIn_mono hnext h
      · rename_i hw; rw [if_neg hw] at h; exact ⟨h.1, hnext _ _ h.2⟩
    · have hi : i = ops.length := by omega
      have hr : Region.ready .any ops.toArray listed = [] := by
        cases hrr : Region.ready .any ops.toArray listed with
        | nil => rfl
        | cons j r =>
          have hm : j ∈ Region.ready .any ops.toArray listed := by rw [hrr]; exact List.mem_cons_self
          have e := hready j hm
          obtain ⟨o, ho, _⟩ := mem_ready.1 hm
          have := (List.getElem?_eq_some_iff.1 ho).1
          omega
      refine ⟨fun _ => ?_, fun j hj => by rw [hr] at hj; cases hj⟩
      rw [hi, List.drop_length] at h
      exact h
theorem as5 {ops : List Oper} {k : Nat} {ps : List PV} {env : Env} (hok : ae9 ops k = true) (ht : xu ops k = true) (hst : alv P l n m ops.toArray σ env (ops.take k) ps) {Q' : Exit → Act → World → Prop} {F : Fr} {G : Gh} {w : World}
    (hQ : ∀ a w' G', Sim n m F G' (yx env (ops.take k) ps) σ a w' → Evol m F G w G' w' → wpListIn (Wd l) 0 P ops.toArray Q' (ops.drop k) a w') : ∀ (fuel : Nat) (listed : Array Bool) (a : Act) (w' : World) (G' : Gh) (env' : Env), listed.size = ops.length → ((List.range ops.length).filter fun i => !listed.getD i true).length ≤ fuel →
      Sim n m F G' env' σ a w' → Evol m F G w G' w' → (∀ i, i < ops.length → listed.getD i true = true → i < k) → (∀ i (o : Oper), ops[i]? = some o → listed.getD i true = true → look env' (o.dst.getD 1000000) = (ps[i]?).getD .dead) →
      (∀ t, (∀ i (o : Oper), ops[i]? = some o → listed.getD i true = true → o.dst.getD 1000000 ≠ t) → look env' t = look env t) → Closed ops listed → wpAnyIn (Wd l) 0 P .any ops.toArray Q' fuel listed a w' := by
  obtain ⟨hpl, hget⟩ := akv (ops.take k) ps env hst
  have hkl : k ≤ ops.length := by simp only [xu, Bool.and_eq_true] at ht; exact nlb ht.1
  have htk : ∀ {i : Nat} {o : Oper}, i < k → ops[i]? = some o → (ops.take k)[i]? = some o := fun {i o} hi ho => by rw [List.getElem?_take, if_pos hi]; exact ho
  have htk' : ∀ {i : Nat} {o : Oper}, (ops.take k)[i]? = some o → i < k ∧ ops[i]? = some o := fun {i o} h => by
    rw [List.getElem?_take] at h
    split at h
    · exact ⟨by assumption, h⟩
    · cases h
  have fin : ∀ (fuel : Nat) (listed : Array Bool) (a : Act) (w' : World) (G' : Gh) (env' : Env), listed.size = ops.length → ((List.range ops.length).filter fun i => !listed.getD i true).length ≤ fuel → (∀ i, i < k → listed.getD i true = true) → (∀ i, i < ops.length → listed.getD i true = true → i < k) → Sim n m F G' env' σ a w' → Evol m F G w G' w' →
      (∀ i (o : Oper), ops[i]? = some o → listed.getD i true = true → look env' (o.dst.getD 1000000) = (ps[i]?).getD .dead) →
      (∀ t, (∀ i (o : Oper), ops[i]? = some o → listed.getD i true = true → o.dst.getD 1000000 ≠ t) → look env' t = look env t) → Closed ops listed → wpAnyIn (Wd l) 0 P .any ops.toArray Q' fuel listed a w' := by
    intro fuel listed a w' G' env' hsz hfu hall hsub hs hv h1 h2 hc
    refine ag4 ht fuel k listed a w' (Nat.le_refl _) hkl ?_ hsz hc (fun j hj => ⟨hsub j hj, hall j⟩) (hQ a w' G' (hs.weaken fun t => .inr (.inl ?_)) hv)
    · have hsub2 : ((List.range ops.length).filter fun i => Nat.ble k i).length ≤ ((List.range ops.length).filter fun i => !listed.getD i true).length := by
        have e : ((List.range ops.length).filter fun i => Nat.ble k i) = ((List.range ops.length).filter fun i => !listed.getD i true).filter fun i => Nat.ble k i := by
          rw [List.filter_filter]
          refine List.filter_congr fun x hx => ?_
          have hx := List.mem_range.1 hx
          cases hb : Nat.ble k x with
          | false => simp
          | true =>
            have := nlb hb
            have : listed.getD x true = false := by
              cases hh : listed.getD x true with
              | false => rfl
              | true => have := hsub x hx hh; omega
            simp [this]
        rw [e]; exact List.length_filter_le _ _
      have hcount : ∀ n, k ≤ n → ((List.range n).filter fun i => Nat.ble k i).length = n - k := by
        intro n
        induction n with
        | zero => intro _; simp
        | succ n ih =>
          intro hn
          rw [List.range_succ, List.filter_append, List.length_append]
          by_cases e : k ≤ n
          · have hb : Nat.ble k n = true := by simp only [Nat.ble_eq]; exact e
            rw [ih e, List.filter_cons_of_pos hb]; simp; omega
          · have hk : k = n + 1 := by omega
            have hz : ((List.range n).filter fun i => Nat.ble k i) = [] := by
              rw [List.filter_eq_nil_iff]; intro x hx hb; have := List.mem_range.1 hx; have := nlb hb; omega
            have hz2 : ([n].filter fun i => Nat.ble k i) = [] := by
              rw [List.filter_eq_nil_iff]; intro x hx hb; have := List.mem_singleton.1 hx; have := nlb hb; omega
            rw [hz, hz2]; simp; omega
      have := hcount ops.length hkl
      omega
    · obtain ⟨k1, k2⟩ := acl (ops.take k) ps env t hpl
      by_cases hex : ∃ (i : Nat) (o : Oper), (ops.take k)[i]? = some o ∧ o.dst.getD 1000000 = t
      · obtain ⟨i, o, hi, ht'⟩ := hex
        obtain ⟨hik, hio⟩ := htk' hi
        have hf := aag hok hik hio
        rw [k2 i o hi ht' fun j o' hj e => (hf.one j o' (htk' hj).1 (htk' hj).2 (ht'.trans e.symm)).symm, ← ht']
        exact (h1 i o hio (hall i hik)).symm
      · rw [k1 fun i o hi e => hex ⟨i, o, hi, e⟩]
        exact (h2 t fun i o hi hl e => hex ⟨i, o, htk (hsub i (List.getElem?_eq_some_iff.1 hi).1 hl) hi, e⟩).symm
  intro fuel
  induction fuel with
  | zero =>
    intro listed a w' G' env' hsz hfu hs hv h0 h1 h2 hc
    refine fin 0 listed a w' G' env' hsz hfu (fun i hi => ?_) h0 hs hv h1 h2 hc
    cases hl : listed.getD i true with
    | true => rfl
    | false =>
      have : i ∈ (List.range ops.length).filter fun i => !listed.getD i true := List.mem_filter.2 ⟨List.mem_range.2 (by omega), by simp [hl]⟩
      rw [List.length_eq_zero_iff.1 (Nat.le_zero.1 hfu)] at this; cases this
  | succ fuel ih =>
    intro listed a w' G' env' hsz hfu hs hv h0 h1 h2 hc
    by_cases hall : ∀ i, i < k → listed.getD i true = true
    · exact fin (fuel + 1) listed a w' G' env' hsz hfu hall h0 hs hv h1 h2 hc
    · have hready : ∃ i, i ∈ Region.ready .any ops.toArray listed := by
        have : ∃ i, i < k ∧ listed.getD i true = false := by
          refine Classical.byContradiction fun hn => hall fun i hi => ?_
          cases hb : listed.getD i true with
          | true => rfl
          | false => exact absurd ⟨i, hi, hb⟩ hn
        obtain ⟨i, ⟨hik, hif⟩, hmin⟩ := adn this
        have hio : ops[i]? = some ops[i] := by simp
        have hf := aag hok hik hio
        refine ⟨i, mem_ready.2 ⟨_, hio, hif, fun e he hb => ?_⟩⟩
        have hon := hf.back e he hb
        rw [aap hsz (by omega)]
        cases hb' : listed.getD e.on true with
        | true => rfl
        | false => have := hmin e.on ⟨by omega, hb'⟩; omega
      refine ⟨fun hr => (by obtain ⟨i, hi⟩ := hready; rw [hr] at hi; cases hi), fun i hi => ?_⟩
      obtain ⟨o, ho, hl, hrdy⟩ := mem_ready.1 hi
      have hil := (List.getElem?_eq_some_iff.1 ho).1
      have hik : i < k := by
        rcases Nat.lt_or_ge i k with h | h
        · exact h
        · exfalso
          refine hall fun j hj => ?_
          have hT := ht
          simp only [xu, Bool.and_eq_true] at hT
          have := ut hT.2 hil
          simp only [Bool.or_eq_true, Bool.and_eq_true, ho] at this
          rcases this with h' | ⟨c1, c2⟩
          · have := nlb h'; omega
          · exact ab8 hc hsz 30 i j o ho (ut c1 (by omega)) fun e he hb => by
              have h1 := hrdy e he hb
              have := afe (List.all_eq_true.1 c2 e he) hb
              rw [aap hsz (by omega)] at h1; exact h1
      obtain ⟨p, e3, e4⟩ := hget i o (htk hik ho)
      have hf := aag hok hik ho
      have hrdy' : ∀ e ∈ o.after.toList, Region.binds .any e = true → listed.getD e.on true = true := fun e he hb => by
        have h1 := hrdy e he hb
        rw [aap hsz (by have := hf.back e he hb; omega)] at h1; exact h1
      have htt : (ops.take k).take i = ops.take i := by rw [List.take_take, Nat.min_eq_left (by omega)]
      have hsame : ∀ t ∈ readsOf ops.toArray o, look env' t = look (yx env ((ops.take k).take i) (ps.take i)) t := by
        intro t ht'
        rw [htt]
        have hpl2 : ps.length = k := by rw [hpl, List.length_take]; omega
        obtain ⟨k1, k2⟩ := acl (ops.take i) (ps.take i) env t (by simp [hpl2]; omega)
        have htk2 : ∀ j o', (ops.take i)[j]? = some o' → j < i ∧ ops[j]? = some o' := fun j o' hj => by
          rw [List.getElem?_take] at hj
          split at hj
          · exact ⟨by assumption, hj⟩
          · cases hj
        by_cases hex : ∃ (j : Nat) (o' : Oper), j < k ∧ ops[j]? = some o' ∧ o'.dst.getD 1000000 = t
        · obtain ⟨j, o', hjk, hj, hjt⟩ := hex
          have hfj := aag hok hjk hj
          rcases hf.reads t ht' j o' hjk hj hjt with ⟨hlt, hb⟩ | ⟨hlt, hb⟩
          · obtain ⟨e, he, hbi, hon⟩ := afz hb
            have hlj := hrdy' e he hbi
            rw [hon] at hlj
            rw [k2 j o' (by rw [List.getElem?_take, if_pos hlt]; exact hj) hjt fun j' o'' hj' e' => (hfj.one j' o'' (by have := (htk2 j' o'' hj').1; omega) (htk2 j' o'' hj').2 (hjt.trans e'.symm)).symm, ← hjt, h1 j o' hj hlj, List.getElem?_take, if_pos hlt]
          · obtain ⟨e, he, hbi, hon⟩ := afz hb
            have hlj : listed.getD j true = false := by
              cases hlj : listed.getD j true with
              | false => rfl
              | true => have := hc j o' hj hlj e he hbi; rw [hon, hl] at this; cases this
            rw [k1 fun j' o'' hj' e' => by
              have h4 := htk2 j' o'' hj'
              have := hfj.one j' o'' (by omega) h4.2 (hjt.trans e'.symm)
              omega]
            exact h2 t fun j' o'' hj' hl' e' => by
              have hj'k := h0 j' (List.getElem?_eq_some_iff.1 hj').1 hl'
              have := hfj.one j' o'' hj'k hj' (hjt.trans e'.symm)
              subst this
              rw [hlj] at hl'; cases hl'
        · rw [k1 fun j o' hj e => hex ⟨j, o', by have := (htk2 j o' hj).1; omega, (htk2 j o' hj).2, e⟩]
          exact h2 t fun j o' hj hl' e => hex ⟨j, o', h0 j (List.getElem?_eq_some_iff.1 hj).1 hl', hj, e⟩
      refine e4.go env' hsame F G' a w' hs i _ Q' (by simpa using ho) fun a2 w2 G2 hs2 hv2 => ?_
      refine ih (listed.setIfInBounds i true) a2 w2 G2 _ (by simpa using hsz) ?_ hs2 (hv.trans hv2) (fun j hj hl' => ?_) (fun j o' hj hl' => ?_) (fun t ht' => ?_) (hc.set (by omega) ho hrdy')
      · have hsub : ((List.range ops.length).filter fun j => !(listed.setIfInBounds i true).getD j true) = (((List.range ops.length).filter fun j => !listed.getD j true).filter fun j => !(listed.setIfInBounds i true).getD j true) := by
          rw [List.filter_filter]
          congr 1
          funext j
          rw [yt (by omega)]
          by_cases e : j = i
          · simp [e]
          · simp [e]
        rw [hsub]
        have := List.length_filter_lt_length_iff_exists (p := fun j => !(listed.setIfInBounds i true).getD j true) (l := (List.range ops.length).filter fun j => !listed.getD j true)
        have h5 := this.2 ⟨i, List.mem_filter.2 ⟨List.mem_range.2 hil, by simp [hl]⟩, by rw [yt (by omega)]; simp⟩
        omega
      · rw [yt (by omega)] at hl'
        split at hl'
        · omega
        · exact h0 j hj hl'
      · rw [qg]
        by_cases e : j = i
        · subst e; rw [ho] at hj; cases hj; rw [if_pos rfl, e3]; rfl
        · rw [yt (by omega), if_neg e] at hl'
          have hjk := h0 j (List.getElem?_eq_some_iff.1 hj).1 hl'
          rw [if_neg fun e' => e ((hf.one j o' hjk hj e'.symm).symm)]
          exact h1 j o' hj hl'
      · rw [qg, if_neg fun e => ht' i o ho (by rw [yt (by omega), if_pos rfl]) e.symm]
        exact h2 t fun j o' hj hl' => ht' j o' hj (by rw [yt (by omega)]; split <;> first | rfl | exact hl')
structure DrawD (P : Program) (l : Option Nat) (n m : Nat) (all : Array Oper) (env : Env) (σ : Sto) (ops : List Oper) (K : Env → Prop) : Prop where
  go : ∃ ps, alv P l n m all σ env ops ps ∧ K (yx env ops ps)
theorem ko {id k : Nat} {ops : List Oper} {env : Env} (hm : P.follows .mixedOrders = true) (hok : ae9 ops k = true) (ht : xu ops k = true)
    (h : DrawD P l n m ops.toArray env σ (ops.take k) fun env' => SatOps P l n m ops.toArray (ops.drop k) env' σ Q) : Sat P l n m (.region id ops.toArray true) env σ Q := by
  obtain ⟨ps, h1, h2⟩ := h
  refine ⟨fun F G a w hs => ?_⟩
  refine wpIn_region_any hm ?_
  have hs' := hs.drew
  have hc : ∀ (i : Nat), i < ops.length → (Array.replicate ops.toArray.size false).getD i true = false := fun i hi => by simp [Array.getD_eq_getD_getElem?, hi]
  refine as5 hok ht h1 (F := F) (G := G) (w := w) (fun a' w' G' hs2 hv2 => abe hv2 _ _ _ (h2.go F G' a' w' hs2)) _ _ a w.drew G env (by simp) (by have := List.length_filter_le (fun i => !(Array.replicate ops.length false).getD i true) (List.range ops.length); simpa only [List.length_range, List.size_toArray] using this) hs' (Evol.drew hs) (fun i hi hl => ?_) (fun i o hi hl => ?_) (fun t _ => rfl) (fun i o hi hl => ?_)
  · rw [hc i hi] at hl; cases hl
  · rw [hc i (List.getElem?_eq_some_iff.1 hi).1] at hl; cases hl
  · rw [hc i (List.getElem?_eq_some_iff.1 hi).1] at hl; cases hl
end
section
variable {P : Program} {l : Option Nat} {tt : TT} {n m : Nat} {all : Array Oper} {env : Env} {σ : Sto} {Q : Post} {d : Nat} {op : Op} {ty : TypeId} {pos : String} {after : Array Edge} {os : List Oper} {K : Env → Prop} {p : PV}
theorem agb {o : Oper} (hd : ∃ d, o.dst = some d ∧ d < n) (hnd : ∀ c, o.op ≠ .defer c) (h : StepAt P n m all (yj env (readsOf all o)) σ o p) : StepC P l n m all env σ o p := by
  refine ⟨fun env0 hag F G a w hs i K Q' hi hK => ?_⟩
  obtain ⟨d, hd1, hd2⟩ := hd
  refine avc (l := l) hs hi hd1 hd2 hnd (env1 := yj env (readsOf all o)) (fun t => ?_) h fun v hs' => ?_
  · rcases aka env t (readsOf all o) with ⟨q1, q2⟩ | q
    · exact .inr (q2.trans (hag t q1).symm)
    · exact .inl q
  · refine hK _ _ G ?_ (.refl _ _ _ _)
    rw [hd1]; exact hs'
theorem oz (h : K env) : DrawD P l n m all env σ [] K := ⟨[], trivial, h⟩
theorem og {o : Oper} (h1 : StepC P l n m all env σ o p) (h : DrawD P l n m all ((o.dst.getD 1000000, p) :: env) σ os K) : DrawD P l n m all env σ (o :: os) K := by
  obtain ⟨ps, h2, h3⟩ := h
  exact ⟨p :: ps, ⟨h1, h2⟩, h3⟩
theorem p8 (hl : LookAt P n m (yj env (readsOf all ⟨some d, op, ty, pos, after, none⟩)) σ ⟨some d, op, ty, pos, after, none⟩ p) (hd : Nat.ble (d + 1) n = true) (hnd : agl op = false) (h : DrawD P l n m all ((d, p) :: env) σ os K) :
    DrawD P l n m all env σ (⟨some d, op, ty, pos, after, none⟩ :: os) K :=
  og (agb ⟨d, rfl, ltn hd⟩ (fun c e => by rw [show op = .defer c from e] at hnd; cases hnd) (.free rfl hl)) h
theorem yc {j t : Nat} {want b : Bool} (hj : (all[j]?).bind (·.dst) = some t) (hb : look (yj env (readsOf all ⟨some d, op, ty, pos, after, some (j, want)⟩)) t = .bool b) (hw : b = want)
    (hl : LookAt P n m (yj env (readsOf all ⟨some d, op, ty, pos, after, some (j, want)⟩)) σ ⟨some d, op, ty, pos, after, some (j, want)⟩ p) (hd : Nat.ble (d + 1) n = true) (hnd : agl op = false) (h : DrawD P l n m all ((d, p) :: env) σ os K) :
    DrawD P l n m all env σ (⟨some d, op, ty, pos, after, some (j, want)⟩ :: os) K :=
  og (agb ⟨d, rfl, ltn hd⟩ (fun c e => by rw [show op = .defer c from e] at hnd; cases hnd) (.yes rfl hj hb hw hl)) h
theorem atc {t : Nat} {b : Bool} {ops : List Oper} (hb : look env t = .bool b) (h1 : b = true → DrawD P l n m all env σ ops K) (h0 : b = false → DrawD P l n m all env σ ops K) : DrawD P l n m all env σ ops K := by
  cases b
  · exact h0 rfl
  · exact h1 rfl
theorem zf {j t : Nat} {want b : Bool} (hj : (all[j]?).bind (·.dst) = some t) (hb : look env t = .bool b)
    (h1 : b = true → DrawD P l n m all env σ (⟨some d, op, ty, pos, after, some (j, want)⟩ :: os) K) (h0 : b = false → DrawD P l n m all env σ (⟨some d, op, ty, pos, after, some (j, want)⟩ :: os) K) :
    DrawD P l n m all env σ (⟨some d, op, ty, pos, after, some (j, want)⟩ :: os) K := atc hb h1 h0
theorem af5 {env0 : Env} {ty : Nat} {x : Operand} (h : ∀ t ∈ Operand.tmp1 x, look env0 t = look env t) : opv tt env0 ty x = opv tt env ty x := by
  cases x with
  | tmp t => simp only [opv, h t (by simp [Operand.tmp1])]
  | _ => rfl
theorem agd {env0 : Env} : ∀ (xs : List Operand) (ts : List TypeId), (∀ t ∈ xs.flatMap Operand.tmp1, look env0 t = look env t) → zy tt env0 xs ts = zy tt env xs ts
  | x :: xs, t :: ts, h => by
    simp only [zy]
    rw [agd xs ts fun u hu => h u (by simp only [List.flatMap_cons, List.mem_append]; exact .inr hu)]
    congr 1
    have hx : ∀ u ∈ Operand.tmp1 x, look env0 u = look env u := fun u hu => h u (by simp only [List.flatMap_cons, List.mem_append]; exact .inl hu)
    unfold afu
    split
    · rfl
    · exact af5 hx
  | [], [], _ => rfl
  | [], _ :: _, _ => rfl
  | _ :: _, [], _ => rfl
theorem nu {fo : Operand} {args : Array Operand} {ats : Array TypeId} {f : FuncId} {ps : List PV} (hcal : jd P f) (hc : jo P f ps σ fun x σ' => x = p ∧ σ' = σ) (hfo : fo = .func f) (hps : zy tt env args.toList ats.toList = ps) (hlen : Nat.ble args.size ats.size = true)
    (htup : ps.all (fun p => !p.isTup) = true) (hd : Nat.ble (d + 1) n = true) : StepC P l n m all env σ ⟨some d, .call ⟨.value fo, args, ats⟩, ty, pos, after, none⟩ p := by
  refine ⟨fun env0 hag F G a w hs i K Q' hi hK => ?_⟩
  have hag' : ∀ t ∈ args.toList.flatMap Operand.tmp1, look env0 t = look env t := fun t ht => hag t (by
    subst hfo
    simp only [readsOf, Op.operands, Call.operands, List.append_nil]
    rw [Array.toList_append, List.flatMap_append]
    exact List.mem_append_right _ ht)
  have hrule := cz (tt := tt) (l := l) (all := all) (rest := []) (n := n) (m := m) (d := d) (ty := ty) (pos := pos) (after := after) (env := env0) (Q := fun e env' σ' => e = .normal ∧ env' = (d, p) :: env0 ∧ σ' = σ) hcal hc hfo ((agd _ _ hag').trans hps) hlen htup hd (ak ⟨rfl, rfl, rfl⟩)
  have h1 := hrule.go F G a w hs
  unfold wpOpIn
  simp only [hi]
  rw [if_pos (by simp [Region.wanted])]
  simp only [wpListIn] at h1
  rw [if_pos (by simp [Region.wanted])] at h1
  refine ado (fun a' w' q => ?_) (fun e a' w' hne q => ?_) h1
  · obtain ⟨G', env', σ', ⟨_, rfl, rfl⟩, hs', hv⟩ := q
    exact hK _ _ _ hs' hv
  · obtain ⟨G', env', σ', ⟨he, _⟩, _⟩ := q
    exact absurd he hne
end
end Go.Proofs.Ytbpjaiemlkcccaa.Pv
end
section
/- Bytes: rows of bytes in boxes and texts; copies; what a box holds, once it turns no more. -/
namespace Go.Proofs.Ytbpjaiemlkcccaa.Pv
open Go
def bi (s : ByteArray) : List Int := s.data.toList.map fun b => (b.toNat : Int)
def ofI (xs : List Int) : ByteArray := ⟨(xs.map fun n => UInt8.ofNat n.toNat).toArray⟩
theorem ac3 (s : ByteArray) : (bi s).length = s.size := by simp [bi]
theorem aed (xs : List Int) : (ofI xs).size = xs.length := by simp [ofI, ByteArray.size]
theorem amd (s : ByteArray) : ofI (bi s) = s := by
  cases s with
  | mk d =>
    simp only [ofI, bi, List.map_map]
    congr 1
    rw [← Array.toList_inj]
    have : ((fun n : Int => UInt8.ofNat n.toNat) ∘ fun b : UInt8 => (b.toNat : Int)) = id := by funext b; simp
    rw [this]; simp
theorem ac5 {s t : ByteArray} (h : bi s = bi t) : s = t := by rw [← amd s, h, amd]
theorem aqv {xs : List Int} (h : ∀ x ∈ xs, 0 ≤ x ∧ x ≤ 255) : bi (ofI xs) = xs := by
  simp only [bi, ofI, List.map_map]
  conv => rhs; rw [← List.map_id xs]
  refine List.map_congr_left fun x hx => ?_
  have := h x hx
  simp only [Function.comp_apply, id_eq, UInt8.toNat_ofNat']
  omega
theorem arw {s : ByteArray} {x : Int} (h : x ∈ bi s) : 0 ≤ x ∧ x ≤ 255 := by
  obtain ⟨b, _, rfl⟩ := List.mem_map.1 h
  have := b.toNat_lt
  omega
theorem apz (s : ByteArray) (i : Int) : bt s i = (bi s).getD i.toNat 0 := by
  simp only [bt, bi, List.getD, List.getElem?_map]
  cases s.data.toList[i.toNat]? <;> rfl
theorem abf (s t : ByteArray) : bi (s ++ t) = bi s ++ bi t := by simp [bi, ByteArray.data_append]
theorem ab4 (s : ByteArray) (a b : Nat) : bi (s.extract a b) = ((bi s).take b).drop a := by
  rw [ars]; simp [bi, ByteArray.data_extract, List.map_drop, List.map_take]
theorem akx : ∀ (xs : List Int) (s : ByteArray), xs.foldl (fun r n => r.push (UInt8.ofNat n.toNat)) s = s ++ ofI xs
  | [], s => by apply ac5; rw [abf]; simp [ofI, bi]
  | x :: xs, s => by
    rw [List.foldl_cons, akx xs]
    cases s with
    | mk d =>
      apply ByteArray.ext
      simp [ofI, ByteArray.push, ByteArray.data_append]
theorem aww (xs : List Int) : xs.foldl (fun r n => r.push (UInt8.ofNat n.toNat)) ByteArray.empty = ofI xs := by
  rw [akx]; apply ac5; rw [abf]; rfl
structure SrcM {α : Type} (f : α → PV) (tt : TT) (σ : Sto) (p : PV) (ys : List α) : Prop where
  h : (∃ s, p = .str s ∧ ys.map f = afl s) ∨ p = .sl .sh 1 (ys.map f) ∨ ∃ (i off len cap : Nat) (zs : List α), p = .bsl i off 1 len cap ∧ σ[i]? = some (.cells (zs.map f)) ∧ off + len ≤ zs.length ∧ ys = (zs.drop off).take len
theorem ja {α : Type} {f : α → PV} {tt : TT} {σ : Sto} {ys : List α} : SrcM f tt σ (.sl .sh 1 (ys.map f)) ys := ⟨.inr (.inl rfl)⟩
theorem ic {α : Type} {f : α → PV} {tt : TT} {σ : Sto} {y : α} : SrcM f tt σ (.sl .sh 1 [f y]) [y] := ja (ys := [y])
section
variable {P : Program} {l : Option Nat} {tt : TT} {n m : Nat} {all : Array Oper} {rest : List Oper} {env : Env} {σ : Sto} {Q : Post} {d : Nat} {dd : Option Nat} {ty : TypeId} {pos : String} {after : Array Edge} {g : Option (Nat × Bool)}
theorem af (ht : oq P tt) {sT : TypeId} {f off b o k : Nat} {x : Operand} {i : TI} (hf : fld tt sT f = some (off, i)) (hx : opv tt env sT x = .ptr b o) (hs : Nat.beq i.size 0 = false) (hk : o + off = k) :
    LookAt P n m env σ ⟨dd, .fieldAddr sT x f, ty, pos, after, g⟩ (.ptr b k) :=
  LookAt.norm (LookAt.of (fun F G a w h => aec ht h) (c := i.size ≠ 0) (by rw [hx]; simp only [ady, hf, hk]) (fun e => by rw [e] at hs; cases hs))
theorem asu {α : Type} {f : α → PV} (hone : ∀ x, (f x).cells = [f x]) {F : Fr} {G : Gh} {a : Act} {w : World} (hs : Sim n m F G env σ a w) (hpl : ∀ x, (f x).pl = true) {v : Value} {p : PV} {ys : List α} (hr : adk G w v p) (h : SrcM f tt σ p ys) :
    (Builtin.lenOf v).run P w = .ok ys.length w ∧ ∀ k, k ≤ ys.length → ∃ news : Array Value, (Builtin.firstCells 1 k v).run P w = .ok news w ∧ news.size = k ∧ ∀ (j : Nat) u c, news[j]? = some u → ((ys.take k).map f)[j]? = some c → RepP G.K w u c := by
  have gen : ∀ (ad : Addr) (cap : Nat) (vs : Nat → Value) (len : Nat), ys.length = len → ad.spot = none → (∀ j, j < len → w.cell? ⟨ad.block, ad.off + j, none⟩ = some (vs j)) → (∀ j c, (ys.map f)[j]? = some c → RepP G.K w (vs j) c) →
      (Builtin.lenOf (.slice (some ad) len cap)).run P w = .ok ys.length w ∧ ∀ k, k ≤ ys.length → ∃ news : Array Value, (Builtin.firstCells 1 k (.slice (some ad) len cap)).run P w = .ok news w ∧ news.size = k ∧ ∀ (j : Nat) u c, news[j]? = some u → ((ys.take k).map f)[j]? = some c → RepP G.K w u c := by
    intro ad cap vs len hl hsp hv hrr
    refine ⟨by simp [Builtin.lenOf, hl], fun k hk => ⟨((List.range k).map vs).toArray, ?_, by simp, fun j u c hu hc => ?_⟩⟩
    · simp only [Builtin.firstCells, Nat.mul_one]
      exact run_loadCells w ad k vs fun j hj => by rw [aai hsp]; exact hv j (by omega)
    · rw [List.map_take, List.getElem?_take] at hc
      split at hc
      · rename_i hj
        simp [hj] at hu
        subst hu
        exact hrr j c hc
      · cases hc
  rcases h.h with ⟨s, rfl, hys⟩ | rfl | ⟨i, off, len, cap, zs, rfl, hi, hle, rfl⟩
  · have ev := (hr.toS rfl).str
    subst ev
    have hl : ys.length = s.size := by have := congrArg List.length hys; simpa [afl] using this
    refine ⟨by simp [Builtin.lenOf, hl], fun k hk => ⟨(s.extract 0 k).data.map fun b => .int .u8 b.toNat, by simp [Builtin.firstCells], by simp [ByteArray.data_extract]; rw [hl] at hk; omega, fun j u c hu hc => ?_⟩⟩
    rw [List.map_take, hys, List.getElem?_take] at hc
    split at hc
    · rename_i hj
      rw [afl, List.getElem?_map, Option.map_eq_some_iff] at hc
      obtain ⟨b, hb, rfl⟩ := hc
      rw [Array.getElem?_map, Option.map_eq_some_iff] at hu
      obtain ⟨b', hb', rfl⟩ := hu
      have : b' = b := by
        rw [ByteArray.data_extract, Array.getElem?_extract] at hb'
        split at hb'
        · rw [Nat.zero_add] at hb'
          rw [← Array.getElem?_toList] at hb'
          rw [hb] at hb'
          exact (Option.some.inj hb').symm
        · cases hb'
      subst this
      exact .int _ _
    · cases hc
  · obtain ⟨ad, cap, rfl, hes⟩ := ((hr.toS rfl).slv).slv
    rcases hes with e | ⟨ad', p', vs, rfl, hsp, hK, hp, hcap, hz, hv, hrr⟩
    · have : ys = [] := by cases ys with
        | nil => rfl
        | cons => simp at e
      subst this
      refine ⟨by simp [Builtin.lenOf], fun k hk => ?_⟩
      have hk0 : k = 0 := by simpa using hk
      subst hk0
      refine ⟨#[], ?_, rfl, fun j u c hu => by simp at hu⟩
      cases ad <;> simp [Builtin.firstCells, loadCells, loadCellsFrom]
    · rw [List.length_map] at hv ⊢
      refine gen ad' cap vs ys.length rfl hsp (fun j hj => hv j (by omega)) fun j c hc => ?_
      refine hrr j c ?_
      rw [anv f hone]; exact hc
  · obtain ⟨ad, cap', rfl, c1, c2, c3⟩ := (hr.toS rfl).bslv
    obtain ⟨hK, hsp, hcell⟩ := hs.sto i _ hi
    by_cases h0 : len = 0
    · subst h0
      rw [List.take_zero]
      refine ⟨by simp [Builtin.lenOf], fun k hk => ?_⟩
      have hk0 : k = 0 := by simpa using hk
      subst hk0
      refine ⟨#[], ?_, rfl, fun j u c hu => by simp at hu⟩
      cases ad <;> simp [Builtin.firstCells, loadCells, loadCellsFrom]
    · have c3 := c3.resolve_left (by omega)
      subst c3
      have hvals : ∀ j : Nat, ∃ v, j < len → w.cell? ⟨G.bs i, off + j, none⟩ = some v ∧ ∀ c, (zs.map f)[off + j]? = some c → RepP G.K w v c := by
        intro j
        by_cases hj : j < len
        · have hlt : off + j < zs.length := by omega
          obtain ⟨v, h1, h2⟩ := hcell (off + j) (f zs[off + j]) (by simp [hlt])
          refine ⟨v, fun _ => ⟨h1, fun c hc => ?_⟩⟩
          have hcc : c = f zs[off + j] := by simpa [hlt] using hc.symm
          subst hcc
          exact (h2.toS (ajx (hpl _))).plain (hpl _)
        · exact ⟨undef, fun h => absurd h hj⟩
      obtain ⟨vs, hvs⟩ := Classical.axiomOfChoice hvals
      refine gen ⟨G.bs i, off, none⟩ cap' vs len (by simp; omega) rfl (fun j hj => (hvs j hj).1) fun j c hc => ?_
      rw [List.map_take, List.map_drop, List.getElem?_take] at hc
      split at hc
      · rename_i hj
        rw [List.getElem?_drop] at hc
        exact (hvs j hj).2 c hc
      · cases hc
def awp : PV → Bool
  | .str _ => false
  | _ => true
theorem fe (ht : oq P tt) {src dst : TypeId} {x : Operand} {e i : TI} {q : PV} {ys : List Int} (he : eti tt src = some e) (hd1 : e.desc = .int .u8) (hi : tl tt dst = some i) (hd2 : i.desc = .string) (hx : opv tt env src x = q) (hy : SrcM (PV.int .u8) tt σ q ys) (hns : awp q = true) :
    LookAt P n m env σ ⟨dd, .convert src dst x, ty, pos, after, g⟩ (.str (ofI ys)) := by
  refine ⟨fun F G a w hs => ?_⟩
  have hxo := o7 hs tt src x
  rw [hx] at hxo
  obtain ⟨eT, hu, hT⟩ := aao ht he
  have hu2 := hT.und
  rw [hd1] at hu2
  have hu3 := (ht _ _ hi).und
  rw [hd2] at hu3
  obtain ⟨r1, r2⟩ := asu (P := P) (tt := tt) (f := PV.int .u8) (fun _ => rfl) hs (fun _ => rfl) hxo hy
  obtain ⟨news, r3, r4, r5⟩ := r2 ys.length (Nat.le_refl _)
  obtain ⟨ad, len, cap, ex⟩ : ∃ ad len cap, a.eval x = .slice ad len cap := by
    rcases hy.h with ⟨s, rfl, _⟩ | rfl | ⟨i, off, len, cap, zs, rfl, _⟩
    · cases hns
    · obtain ⟨ad, cap, e, _⟩ := ((hxo.toS rfl).slv).slv; exact ⟨_, _, _, e⟩
    · obtain ⟨ad, cap', e, _⟩ := (hxo.toS rfl).bslv; exact ⟨_, _, _, e⟩
  rw [ex] at r1 r3
  have hlen : len = ys.length := by simpa [Builtin.lenOf] using r1
  subst hlen
  refine ⟨.string (ofI ys), ?_, .inr (.inl (.pl (.str _))), trivial⟩
  have hconv := run_convert_bytes_string (P := P) w src dst eT ad ys.length cap hu hu2 hu3
  have hfin : (Conv.bytesToString (.slice ad ys.length cap)).run P w = .ok (.string (ofI ys)) w := by
    cases ad with
    | none =>
      have : news = #[] := by simp only [Builtin.firstCells, Sem.run_pure] at r3; injection r3 with e _; exact e.symm
      subst this
      have hnil : ys = [] := by rw [← List.length_eq_zero_iff]; simpa using r4.symm
      subst hnil
      simp [Conv.bytesToString, ofI]; rfl
    | some ad =>
      simp only [Builtin.firstCells, Nat.mul_one] at r3
      have hnews : news = (ys.map (Value.int .u8)).toArray := by
        apply Array.ext_getElem?
        intro j
        by_cases hj : j < ys.length
        · have := r5 j news[j] (.int .u8 ys[j]) (by simp [r4, hj]) (by simp [hj])
          have e : news[j] = .int .u8 ys[j] := RepS.int (G := G) (w := w) (.pl this)
          rw [Array.getElem?_eq_getElem (by omega), e]; simp [hj]
        · rw [Array.getElem?_eq_none (by omega)]; simp [hj]
      rw [hnews] at r3
      have := run_bytesToString (P := P) w ad ys.length cap ys r3
      rw [aww] at this
      exact this
  simp [execOp, ex, hconv, hfin]
end
end Go.Proofs.Ytbpjaiemlkcccaa.Pv
end
section
/- The rules for rows in boxes, in the form in which the walk uses them. -/
namespace Go.Proofs.Ytbpjaiemlkcccaa.Pv
open Go
section
variable {P : Program} {l : Option Nat} {tt : TT} {n m : Nat} {all : Array Oper} {rest : List Oper} {env : Env} {τ ex : Sto} {Q : Post} {d : Nat} {dd : Option Nat} {ty : TypeId} {pos : String} {after : Array Edge} {g : Option (Nat × Bool)}
theorem bz {σ : Sto} (ht : oq P tt) {sT : TypeId} {f off : Nat} {x : Operand} {i : TI} {cs ds : List PV} (hf : fld tt sT f = some (off, i)) (hx : opv tt env sT x = .cref cs) (hs : Nat.beq i.size 0 = false) (hl : Nat.ble off cs.length = true) (hk : cs.drop off = ds) :
    LookAt P n m env σ ⟨dd, .fieldAddr sT x f, ty, pos, after, g⟩ (.cref ds) :=
  LookAt.norm (LookAt.of (fun F G a w h => aec ht h) (c := i.size ≠ 0 ∧ off ≤ cs.length) (by rw [hx]; simp only [ady, hf, hk]) ⟨fun e => (by rw [e] at hs; cases hs), nlb hl⟩)
theorem adh {σ : Sto} {fo : Operand} {args : Array Operand} {ats : Array TypeId} {f : FuncId} {as bs ps : List PV} {p : PV} (hcal : jd P f) (hc : jo P f ps σ fun x σ' => x = p ∧ σ' = σ) (hfo : opv tt env 0 fo = .fn (.func f) as bs) (hps : as ++ (zy tt env args.toList ats.toList ++ bs) = ps)
    (hlen : Nat.ble args.size ats.size = true) (htup : ps.all (fun p => !p.isTup) = true) (hd : Nat.ble (d + 1) n = true) (h : SatOps P l n m all rest ((d, p) :: env) σ Q) :
    SatOps P l n m all (⟨some d, .call ⟨.value fo, args, ats⟩, ty, pos, after, none⟩ :: rest) env σ Q :=
  akj (tt := tt) hcal hfo hps.symm (nlb hlen) htup hc (ltn hd) fun r σ' ⟨e1, e2⟩ => by rw [e1, e2]; exact h
def qc {α : Type} (p : α → Bool) (xs : List α) : Int := match xs.findIdx? p with
  | some i => i
  | none => -1
theorem aay {α : Type} [Inhabited α] {p : α → Bool} {xs : List α} {i : Nat} (hi : i < xs.length) (h : ∀ j, j < i → p (xs.getD j default) = false) (hp : p (xs.getD i default) = true) : qc p xs = i := by
  have : xs.findIdx? p = some i := by
    rw [List.findIdx?_eq_some_iff_getElem]
    have e : ∀ j (hj : j < xs.length), xs.getD j default = xs[j] := fun j hj => by simp [List.getD, hj]
    refine ⟨hi, by rw [← e i hi]; exact hp, fun j hj => ?_⟩
    rw [← e j (by omega)]; simpa using h j hj
  simp [qc, this]
theorem acs {α : Type} [Inhabited α] {p : α → Bool} {xs : List α} (h : ∀ j, j < xs.length → p (xs.getD j default) = false) : qc p xs = -1 := by
  have : xs.findIdx? p = none := by
    rw [List.findIdx?_eq_none_iff]
    intro x hx
    obtain ⟨j, hj, rfl⟩ := List.getElem_of_mem hx
    have := h j hj
    simpa [List.getD, hj] using this
  simp [qc, this]
theorem abg {α : Type} (p : α → Bool) (xs : List α) : (qc p xs = -1 ∧ ∀ x ∈ xs, p x = false) ∨ ∃ (i : Nat) (x : α), qc p xs = i ∧ xs[i]? = some x ∧ p x = true ∧ ∀ (j : Nat) y, j < i → xs[j]? = some y → p y = false := by
  cases hf : xs.findIdx? p with
  | none => exact .inl ⟨by simp [qc, hf], fun x hx => List.findIdx?_eq_none_iff.1 hf x hx⟩
  | some i =>
    obtain ⟨h1, h2, h3⟩ := List.findIdx?_eq_some_iff_getElem.1 hf
    refine .inr ⟨i, xs[i], by simp [qc, hf], by simp [h1], h2, fun j y hj hy => ?_⟩
    have := h3 j hj
    obtain ⟨hj', rfl⟩ := List.getElem?_eq_some_iff.1 hy
    simpa using this
theorem av2 {α : Type} (p : α → Bool) (xs : List α) : decide (0 ≤ qc p xs) = xs.any p := by
  rcases abg p xs with ⟨h1, h2⟩ | ⟨i, x, h1, h2, h3, _⟩
  · rw [h1]
    have : xs.any p = false := by rw [List.any_eq_false]; intro x hx; simp [h2 x hx]
    rw [this]; rfl
  · rw [h1]
    have : xs.any p = true := List.any_eq_true.2 ⟨x, List.mem_of_getElem? h2, h3⟩
    rw [this]; simp
theorem iq {tt : TT} {σ : Sto} : acp tt env σ [] [] := trivial
theorem lc {σ : Sto} {t : Nat} {p q : PV} {rs : List ResultVar} {ps : List PV} (hp : look env t = p) (hw : Wk q p) (h : acp tt env σ rs ps) : acp tt env σ (.tmp t :: rs) (q :: ps) := ⟨by rw [hp]; exact hw, h⟩
theorem mr {k off a : Nat} {t : TypeId} {ti : TI} {cs : List PV} {c : Prop} {p : PV} {rs : List ResultVar} {ps : List PV} (hx : look env a = .ptr (τ.length + k) off) (hti : tl tt t = some ti) (hi : ex[k]? = some (.cells cs)) (hl : ag5 ti cs off = some (c, p)) (hc : c)
    (h : acp tt env (τ ++ ex) rs ps) : acp tt env (τ ++ ex) (.cell a t :: rs) (p :: ps) := ⟨⟨_, _, _, _, _, hx, hti, (wo k).trans hi, hl, hc⟩, h⟩
theorem fu {fn : Func} {R : PV → Sto → Prop} {e : Exit} {σ : Sto} (ps : List PV) (he : e = .normal ∨ e = .ret) (hres : acp tt env σ fn.results.toList ps) (htup : ps.all (fun p => !p.isTup) = true) (hσ : σ = τ ++ ex) (hm : m ≤ τ.length) (hlt : o6 τ.length ps) (hst : xh τ)
    (hR : R (abb ps) τ) : gu tt fn m R e env σ := by
  refine ⟨he, ps, τ, ex, hres, fun p hp => ?_, hσ, .inr ⟨hm, hst⟩, hlt, hR⟩
  have := List.all_eq_true.1 htup p hp
  simpa using this
theorem adq {c : Code} {σ σ' : Sto} (he : σ = σ') (h : Sat P l n m c env σ' Q) : Sat P l n m c env σ Q := by rw [he]; exact h
theorem zk {os : List Oper} {σ σ' : Sto} (he : σ = σ') (h : SatOps P l n m all os env σ' Q) : SatOps P l n m all os env σ Q := by rw [he]; exact h
theorem j3 {σ : Sto} {x y z : Operand} {b : Bool} {p : PV} (hc : opv tt env ty x = .bool b) (hp : (b = true ∧ opv tt env ty y = p) ∨ (b = false ∧ opv tt env ty z = p)) : LookAt P n m env σ ⟨dd, .pick x y z, ty, pos, after, g⟩ p := by
  refine LookAt.norm (LookAt.of (fun F G a w hs => aqt (tt := tt) hs) (c := True) ?_ trivial)
  unfold ao7
  rw [hc]
  rcases hp with ⟨rfl, rfl⟩ | ⟨rfl, rfl⟩ <;> rfl
end
section
variable {P : Program} {l : Option Nat} {n m : Nat} {all : Array Oper} {rest : List Oper} {env : Env} {σ : Sto} {Q : Post} {dd : Option Nat} {ty : TypeId} {pos : String} {after : Array Edge} {g : Option (Nat × Bool)} {p : PV} {K : Env → Prop}
theorem jq {op : Op} {j : Nat} {b : Bool} (h : SatOps P l n m all (⟨dd, op, ty, pos, after, some (j, b)⟩ :: rest) env σ Q) : SatOps P l n m all (⟨dd, op, ty, pos, after, some (j, b)⟩ :: rest) env σ Q := h
theorem bn {os : List Oper} (h : SatOps P l n m all os env σ Q) : SatOps P l n m all os env σ Q := h
theorem bq {c : Code} (h : Sat P l n m c env σ Q) : Sat P l n m c env σ Q := h
theorem p9 {os : List Oper} (h : DrawD P l n m all env σ os K) : DrawD P l n m all env σ os K := h
theorem bv {x : Operand} (h : SatOps P l n m all (⟨dd, .move x, ty, pos, after, none⟩ :: rest) env σ Q) : SatOps P l n m all (⟨dd, .move x, ty, pos, after, none⟩ :: rest) env σ Q := h
theorem jg {x : Operand} (h : LookAt P n m env σ ⟨dd, .move x, ty, pos, after, g⟩ p) : LookAt P n m env σ ⟨dd, .move x, ty, pos, after, g⟩ p := h
theorem ai {x : Operand} (h : SatOps P l n m all (⟨dd, .assign x, ty, pos, after, none⟩ :: rest) env σ Q) : SatOps P l n m all (⟨dd, .assign x, ty, pos, after, none⟩ :: rest) env σ Q := h
theorem jl {x : Operand} (h : LookAt P n m env σ ⟨dd, .assign x, ty, pos, after, g⟩ p) : LookAt P n m env σ ⟨dd, .assign x, ty, pos, after, g⟩ p := h
theorem dw {op : BinOp} {xT yT : TypeId} {x y : Operand} (h : SatOps P l n m all (⟨dd, .binOp op xT x y yT, ty, pos, after, none⟩ :: rest) env σ Q) : SatOps P l n m all (⟨dd, .binOp op xT x y yT, ty, pos, after, none⟩ :: rest) env σ Q := h
theorem kv {op : BinOp} {xT yT : TypeId} {x y : Operand} (h : LookAt P n m env σ ⟨dd, .binOp op xT x y yT, ty, pos, after, g⟩ p) : LookAt P n m env σ ⟨dd, .binOp op xT x y yT, ty, pos, after, g⟩ p := h
theorem qy {op : UnOp} {xT : TypeId} {x : Operand} (h : SatOps P l n m all (⟨dd, .unOp op xT x, ty, pos, after, none⟩ :: rest) env σ Q) : SatOps P l n m all (⟨dd, .unOp op xT x, ty, pos, after, none⟩ :: rest) env σ Q := h
theorem tq {a b : TypeId} {x : Operand} (h : SatOps P l n m all (⟨dd, .convert a b x, ty, pos, after, none⟩ :: rest) env σ Q) : SatOps P l n m all (⟨dd, .convert a b x, ty, pos, after, none⟩ :: rest) env σ Q := h
theorem lm {a b : TypeId} {x : Operand} (h : LookAt P n m env σ ⟨dd, .convert a b x, ty, pos, after, g⟩ p) : LookAt P n m env σ ⟨dd, .convert a b x, ty, pos, after, g⟩ p := h
theorem cu {t : TypeId} {x : Operand} {f : Nat} (h : SatOps P l n m all (⟨dd, .fieldAddr t x f, ty, pos, after, none⟩ :: rest) env σ Q) : SatOps P l n m all (⟨dd, .fieldAddr t x f, ty, pos, after, none⟩ :: rest) env σ Q := h
theorem dh {t : TypeId} {x : Operand} {f : Nat} (h : LookAt P n m env σ ⟨dd, .fieldAddr t x f, ty, pos, after, g⟩ p) : LookAt P n m env σ ⟨dd, .fieldAddr t x f, ty, pos, after, g⟩ p := h
theorem iw {x : Operand} {k : Nat} (h : SatOps P l n m all (⟨dd, .extract x k, ty, pos, after, none⟩ :: rest) env σ Q) : SatOps P l n m all (⟨dd, .extract x k, ty, pos, after, none⟩ :: rest) env σ Q := h
theorem fq {t : TypeId} {x : Operand} (h : SatOps P l n m all (⟨dd, .load t x, ty, pos, after, none⟩ :: rest) env σ Q) : SatOps P l n m all (⟨dd, .load t x, ty, pos, after, none⟩ :: rest) env σ Q := h
theorem gm {t : TypeId} {x : Operand} (h : LookAt P n m env σ ⟨dd, .load t x, ty, pos, after, g⟩ p) : LookAt P n m env σ ⟨dd, .load t x, ty, pos, after, g⟩ p := h
theorem ul {t : TypeId} {x y : Operand} (h : SatOps P l n m all (⟨dd, .index t x y, ty, pos, after, none⟩ :: rest) env σ Q) : SatOps P l n m all (⟨dd, .index t x y, ty, pos, after, none⟩ :: rest) env σ Q := h
theorem j5 {t : TypeId} {x y : Operand} (h : SatOps P l n m all (⟨dd, .indexAddr t x y, ty, pos, after, none⟩ :: rest) env σ Q) : SatOps P l n m all (⟨dd, .indexAddr t x y, ty, pos, after, none⟩ :: rest) env σ Q := h
theorem au {t : TypeId} {x y : Operand} (h : LookAt P n m env σ ⟨dd, .indexAddr t x y, ty, pos, after, g⟩ p) : LookAt P n m env σ ⟨dd, .indexAddr t x y, ty, pos, after, g⟩ p := h
theorem gq {t : TypeId} {x y : Operand} (h : SatOps P l n m all (⟨dd, .store t x y, ty, pos, after, none⟩ :: rest) env σ Q) : SatOps P l n m all (⟨dd, .store t x y, ty, pos, after, none⟩ :: rest) env σ Q := h
theorem ji {f : FuncId} {a : Array Operand} {ts : Array TypeId} (h : SatOps P l n m all (⟨dd, .call ⟨.value (.func f), a, ts⟩, ty, pos, after, none⟩ :: rest) env σ Q) : SatOps P l n m all (⟨dd, .call ⟨.value (.func f), a, ts⟩, ty, pos, after, none⟩ :: rest) env σ Q := h
theorem jr {b : Builtin} {a : Array Operand} {ts : Array TypeId} (h : SatOps P l n m all (⟨dd, .call ⟨.builtin b, a, ts⟩, ty, pos, after, none⟩ :: rest) env σ Q) : SatOps P l n m all (⟨dd, .call ⟨.builtin b, a, ts⟩, ty, pos, after, none⟩ :: rest) env σ Q := h
theorem jv {b : Builtin} {a : Array Operand} {ts : Array TypeId} (h : LookAt P n m env σ ⟨dd, .call ⟨.builtin b, a, ts⟩, ty, pos, after, g⟩ p) : LookAt P n m env σ ⟨dd, .call ⟨.builtin b, a, ts⟩, ty, pos, after, g⟩ p := h
theorem sj {t : TypeId} {x : Operand} {lo hi mx : Option Operand} (h : SatOps P l n m all (⟨dd, .slice t x lo hi mx, ty, pos, after, none⟩ :: rest) env σ Q) : SatOps P l n m all (⟨dd, .slice t x lo hi mx, ty, pos, after, none⟩ :: rest) env σ Q := h
theorem jw {t : TypeId} {x : Operand} {lo hi mx : Option Operand} (h : LookAt P n m env σ ⟨dd, .slice t x lo hi mx, ty, pos, after, g⟩ p) : LookAt P n m env σ ⟨dd, .slice t x lo hi mx, ty, pos, after, g⟩ p := h
theorem pq {t : TypeId} {ps : Array (Nat × Operand)} (h : SatOps P l n m all (⟨dd, .build t ps, ty, pos, after, none⟩ :: rest) env σ Q) : SatOps P l n m all (⟨dd, .build t ps, ty, pos, after, none⟩ :: rest) env σ Q := h
theorem j4 {t : TypeId} {ps : Array (Nat × Operand)} (h : LookAt P n m env σ ⟨dd, .build t ps, ty, pos, after, g⟩ p) : LookAt P n m env σ ⟨dd, .build t ps, ty, pos, after, g⟩ p := h
theorem mi {t : TypeId} {k : Nat} {ps : Array (Nat × Operand)} (h : SatOps P l n m all (⟨dd, .buildSlice t k ps, ty, pos, after, none⟩ :: rest) env σ Q) : SatOps P l n m all (⟨dd, .buildSlice t k ps, ty, pos, after, none⟩ :: rest) env σ Q := h
theorem qd {f : Fn} {a b : Array Operand} (h : SatOps P l n m all (⟨dd, .makeFunc f a b, ty, pos, after, none⟩ :: rest) env σ Q) : SatOps P l n m all (⟨dd, .makeFunc f a b, ty, pos, after, none⟩ :: rest) env σ Q := h
theorem je {t : TypeId} (h : SatOps P l n m all (⟨dd, .alloc t, ty, pos, after, none⟩ :: rest) env σ Q) : SatOps P l n m all (⟨dd, .alloc t, ty, pos, after, none⟩ :: rest) env σ Q := h
theorem lu {t : TypeId} {x : Operand} (h : SatOps P l n m all (⟨dd, .box t x, ty, pos, after, none⟩ :: rest) env σ Q) : SatOps P l n m all (⟨dd, .box t x, ty, pos, after, none⟩ :: rest) env σ Q := h
theorem kr {x y z : Operand} (h : SatOps P l n m all (⟨dd, .pick x y z, ty, pos, after, none⟩ :: rest) env σ Q) : SatOps P l n m all (⟨dd, .pick x y z, ty, pos, after, none⟩ :: rest) env σ Q := h
theorem kw {x y z : Operand} (h : LookAt P n m env σ ⟨dd, .pick x y z, ty, pos, after, g⟩ p) : LookAt P n m env σ ⟨dd, .pick x y z, ty, pos, after, g⟩ p := h
theorem wu {x : Operand} (h : SatOps P l n m all (⟨dd, .nilCheck x, ty, pos, after, none⟩ :: rest) env σ Q) : SatOps P l n m all (⟨dd, .nilCheck x, ty, pos, after, none⟩ :: rest) env σ Q := h
end
end Go.Proofs.Ytbpjaiemlkcccaa.Pv
end
section
/- What comes in, with its bulk; and what plain values of a shape are. -/
namespace Go.Proofs.Ytbpjaiemlkcccaa.Pv
open Go
mutual
def PV.wt : PV → Nat
  | .str s => s.size + 1
  | .sl _ _ es => ww es + 1
  | .agg cs => ww cs + 1
  | _ => 1
def ww : List PV → Nat
  | [] => 0
  | v :: r => v.wt + ww r
end
theorem ad2 : ∀ (a b : List PV), ww (a ++ b) = ww a + ww b
  | [], b => by simp [ww]
  | x :: a, b => by simp only [List.cons_append, ww, ad2 a b]; omega
theorem axl (p : PV) : 1 ≤ p.wt := by cases p <;> simp [PV.wt]
theorem acm : ∀ (l : List PV), l.length ≤ ww l
  | [] => Nat.zero_le _
  | x :: l => by have := axl x; have := acm l; simp only [List.length_cons, ww]; omega
theorem aqk : ∀ {l : List PV} {p : PV}, p ∈ l → p.wt ≤ ww l
  | x :: l, p, h => by
    simp only [ww]
    cases h with
    | head => omega
    | tail _ h => have := aqk h; omega
theorem aqi {α : Type} : ∀ (es : List PV) (ys : List α) (f : α → Nat), es.length = ys.length → (∀ (i : Nat) p y, es[i]? = some p → ys[i]? = some y → p.wt ≤ f y) → ww es ≤ (ys.map f).sum
  | [], _, _, _, _ => Nat.zero_le _
  | e :: es, [], _, h, _ => by simp at h
  | e :: es, y :: ys, f, h, hw => by
    have h1 := hw 0 e y rfl rfl
    have h2 := aqi es ys f (by simpa using h) fun i p y hp hy => hw (i + 1) p y (by simpa using hp) (by simpa using hy)
    simp only [ww, List.map_cons, List.sum_cons]; omega
theorem awx {e : Shp} {c : List PV} (h : abl e c) : ww c ≤ (mkV e c).wt := by
  cases e with
  | bool => obtain ⟨b, rfl⟩ := h; simp [ww, mkV]
  | int k => obtain ⟨n, _, rfl⟩ := h; simp [ww, mkV]
  | str => obtain ⟨s, _, rfl⟩ := h; simp [ww, mkV]
  | sl sz e => obtain ⟨es, rfl, _⟩ := h; simp [ww, mkV]
  | struct fs => simp only [mkV, PV.wt]; omega
structure Bulk {H : Type} (B : DataW H → Nat) : Prop where
  lit : ∀ l, 1 ≤ B (.lit l)
  str : ∀ bytes, bytes.length + 1 ≤ B (.lit (.string bytes))
  nil : 1 ≤ B .nil
  sl : ∀ es sp, (es.map B).sum + 1 ≤ B (.slice es sp)
  agg : ∀ ps, (ps.map B).sum + 1 ≤ B (.agg ps)
section
variable {H : Type} {enc : TypeId × Value → H} {P : Program} {W : World}
open Go.ChangeShapes Go.WideShapes
theorem atd {B : DataW H → Nat} (hB : Bulk B) : ∀ (fuel : Nat) (sh : Shp) (t : TypeId) (cs : List Value) (x : DataW H × List MemPlace), DataW.trod enc P W 0 (fun _ => true) true fuel t cs = some x → adw P sh t = true → ∃ ps, abl sh ps ∧ akd W cs ps ∧ (mkV sh ps).wt ≤ B x.1 := by
  intro fuel
  induction fuel with
  | zero => intro sh t cs x h; simp [DataW.trod] at h
  | succ fuel ih =>
    intro sh t cs x h hok
    cases sh with
    | bool =>
      simp only [adw] at hok
      split at hok
      · rename_i ht
        obtain ⟨b, rfl, rfl⟩ := DataW.trod_bool ht h
        exact ⟨_, ⟨b, rfl⟩, .one (.bool b), hB.lit _⟩
      · cases hok
    | int k =>
      simp only [adw] at hok
      split at hok
      · rename_i k' ht
        simp only [beq_iff_eq] at hok
        subst hok
        obtain ⟨n, rfl, rfl, hw⟩ := DataW.trod_int ht h
        exact ⟨_, ⟨n, hw, rfl⟩, .one (.int k n), hB.lit _⟩
      · cases hok
    | str =>
      simp only [adw] at hok
      split at hok
      · rename_i ht
        obtain ⟨s, rfl, rfl, hs⟩ := DataW.trod_string ht h
        refine ⟨_, ⟨s, hs, rfl⟩, .one (.str s), ?_⟩
        have h1 := hB.str s.data.toList
        have h2 : s.data.toList.length = s.size := by rw [Array.length_toList]; rfl
        simp only [mkV, PV.wt]; omega
      · cases hok
    | sl sz e =>
      simp only [adw] at hok
      split at hok
      · rename_i u ht
        simp only [Bool.and_eq_true, beq_iff_eq] at hok
        obtain ⟨hsz, hpos, hok⟩ := hok
        have hpos := nlb hpos
        rcases DataW.trod_slice ht h with ⟨rfl, rfl⟩ | ⟨a, len, cap, elems, rest, n, hn, rfl, rfl, _, hlc, hcm, hel, hget, _⟩
        · exact ⟨_, ⟨[], rfl, Nat.zero_le _, fun x hx => by cases hx⟩, .one (.sl0 none 0 sz), hB.nil⟩
        · cases hn
          have each : ∀ i, ∃ c : List PV, i < len → abl e c ∧ c.length = sz ∧ ∃ vs : List Value, vs.length = sz ∧ akd W vs c ∧ (∀ j, j < sz → W.cell? ((a.add (i * sz)).add j) = vs[j]?) ∧ ∀ y, elems[i]? = some y → (mkV e c).wt ≤ B y.1 := by
            intro i
            by_cases hi : i < len
            · have h1 := hget i hi
              rw [List.getElem?_eq_getElem (by omega), Option.bind_eq_some_iff] at h1
              obtain ⟨vs, h2, h3⟩ := h1
              obtain ⟨c, h4, h5, h7⟩ := ih e u vs _ h3 hok
              rw [hsz] at h2
              obtain ⟨_, hl, h6⟩ := World.cells?_some h2
              exact ⟨c, fun _ => ⟨h4, by rw [← h5.1, hl], vs, hl, h5, h6, fun y hy => by rw [List.getElem?_eq_getElem (by omega)] at hy; cases hy; exact h7⟩⟩
            · exact ⟨[], fun h => absurd h hi⟩
          obtain ⟨f, hf⟩ := Classical.axiomOfChoice each
          by_cases h0 : len = 0
          · subst h0; exact ⟨_, ⟨[], rfl, Nat.zero_le _, fun x hx => by cases hx⟩, .one (.sl0 (some a) cap sz), by have := hB.sl (elems.map (·.1)) (rest.map (·.1)); simp only [mkV, PV.wt, ww]; omega⟩
          · obtain ⟨es, hes⟩ : ∃ es, es = (List.range len).map fun i => mkV e (f i) := ⟨_, rfl⟩
            have hlen : es.length = len := by rw [hes]; simp
            have hcell : ∀ i, i < len → ∀ j, j < sz → ∃ v, W.cell? ⟨a.block, a.off + (i * sz + j), none⟩ = some v ∧ ∃ c, (f i)[j]? = some c ∧ RepP (K0 W) W v c := by
              intro i hi j hj
              obtain ⟨_, k2, vs, k3, k4, k5, _⟩ := hf i hi
              have k6 := k5 j hj
              have hv : vs[j]? = some vs[j] := List.getElem?_eq_getElem (by omega)
              rw [hv] at k6
              have hs := (aet k6).1
              have ha : a.spot = none := by
                by_cases e0 : i * sz = 0
                · by_cases e1 : j = 0
                  · simpa [Addr.add, e0, e1] using hs
                  · -- the first cell tells
                    have k7 := (hf i hi).2.2
                    obtain ⟨vs', q1, _, q3, _⟩ := k7
                    have q4 := q3 0 (by omega)
                    rw [List.getElem?_eq_getElem (by omega)] at q4
                    have := (aet q4).1
                    simpa [Addr.add, e0] using this
                · obtain ⟨vs', q1, _, q3, _⟩ := (hf 0 (by omega)).2.2
                  have q4 := q3 0 (by omega)
                  rw [List.getElem?_eq_getElem (by omega)] at q4
                  have := (aet q4).1
                  simpa [Addr.add] using this
              have hadd : (a.add (i * sz)).add j = ⟨a.block, a.off + (i * sz + j), none⟩ := by
                rw [aai ha (i * sz), aai rfl j, Nat.add_assoc]
              rw [hadd] at k6
              have hc : (f i)[j]? = some (f i)[j] := List.getElem?_eq_getElem (by omega)
              exact ⟨_, k6, _, hc, k4.2 j _ _ hv hc⟩
            obtain ⟨v0, hv0, _⟩ := hcell (len - 1) (by omega) (sz - 1) (by omega)
            obtain ⟨_, arr, T, fz, hh, hoff⟩ := aet hv0
            have hbd := (Array.getElem?_eq_some_iff.1 hoff).1
            simp only at hbd hh
            have ha : a.spot = none := by
              obtain ⟨vs', q1, _, q3, _⟩ := (hf 0 (by omega)).2.2
              have q4 := q3 0 (by omega)
              rw [List.getElem?_eq_getElem (by omega)] at q4
              have := (aet q4).1
              simpa [Addr.add] using this
            have hmul : (len - 1) * sz + (sz - 1) + 1 = len * sz := by
              have : len * sz = (len - 1) * sz + sz := by rw [← Nat.succ_mul]; congr 1; omega
              omega
            have hsz' : ∀ x ∈ es, x.cells.length = sz := by
              intro x hx
              rw [hes] at hx
              obtain ⟨i, hi, rfl⟩ := List.mem_map.1 hx
              have hi := List.mem_range.1 hi
              rw [(hf i hi).1.mk_cells]; exact (hf i hi).2.1
            refine ⟨[.sl .sh sz es], ⟨es, rfl, by omega, fun x hx => ?_⟩, .one ?_, ?_⟩
            · rw [hes] at hx
              obtain ⟨i, hi, rfl⟩ := List.mem_map.1 hx
              exact ⟨f i, rfl, (hf i (List.mem_range.1 hi)).1⟩
            · have split : ∀ j, j < len * sz → j / sz < len ∧ j % sz < sz ∧ j / sz * sz + j % sz = j := fun j hj =>
                ⟨(Nat.div_lt_iff_lt_mul (by omega)).2 hj, Nat.mod_lt _ (by omega), by rw [Nat.mul_comm]; exact Nat.div_add_mod j sz⟩
              have hflat : ∀ i j c, i < len → j < sz → (flat es)[i * sz + j]? = some c → (f i)[j]? = some c := by
                intro i j c hi hj hc
                have e1 : es[i]? = some (mkV e (f i)) := by rw [hes]; simp [hi]
                have := flat_get hsz' e1 j hj
                rw [this, (hf i hi).1.mk_cells] at hc; exact hc
              rw [← hlen]
              refine .sl a cap sz arr.size es (fun j => (W.cell? ⟨a.block, a.off + j, none⟩).getD undef) ha (ayc hh) (by rw [hlen]; omega) (by omega) hsz' (fun j hj => ?_) (fun j c hc => ?_)
              · rw [hlen] at hj
                obtain ⟨h1, h2, h3⟩ := split j hj
                obtain ⟨v, hv, _⟩ := hcell _ h1 _ h2
                rw [h3] at hv
                rw [hv]; rfl
              · have hj : j < len * sz := by
                  have h1 := (List.getElem?_eq_some_iff.1 hc).1
                  rw [vg hsz', hlen] at h1; exact h1
                obtain ⟨h1, h2, h3⟩ := split j hj
                obtain ⟨v, hv, c', hc', hR⟩ := hcell _ h1 _ h2
                rw [h3] at hv
                rw [hv]
                have := hflat _ _ c h1 h2 (by rw [h3]; exact hc)
                rw [this] at hc'; cases hc'
                exact hR
            · have h1 := hB.sl (elems.map (·.1)) (rest.map (·.1))
              have h2 : ww es ≤ ((elems.map (·.1)).map B).sum := by
                rw [List.map_map]
                refine aqi es elems (fun y => B y.1) (by omega) fun i p y hp hy => ?_
                have hi : i < len := by have := (List.getElem?_eq_some_iff.1 hp).1; omega
                rw [hes] at hp
                simp [hi] at hp
                subst hp
                obtain ⟨_, _, _, _, _, _, k6⟩ := hf i hi
                exact k6 y hy
              simp only [mkV, PV.wt]; omega
      · cases hok
    | struct fs =>
      simp only [adw] at hok
      split at hok
      · rename_i gs ht
        simp only [Bool.and_eq_true, beq_iff_eq] at hok
        obtain ⟨hok, hsz⟩ := hok
        obtain ⟨xs, n, hn, rfl, hlen, hxs, hf⟩ := DataW.trod_struct ht h
        cases hn
        have key : ∀ (fs : List Shp) (gs' : List Field) (off : Nat) (ys : List (DataW H × List MemPlace)), ys.length = gs'.length → aif P fs gs' off = true → (∀ (i : Nat) g, gs'[i]? = some g → DataW.trod enc P W 0 (fun _ => true) true fuel g.type ((cs.drop g.offset).take (P.cellsOf g.type)) = ys[i]?) →
            off ≤ ab9 P gs' off ∧ (ab9 P gs' off ≤ cs.length → ∃ ps, apf fs ps ∧ akd W ((cs.drop off).take (ab9 P gs' off - off)) ps ∧ ww ps ≤ ((ys.map (·.1)).map B).sum) := by
          intro fs
          induction fs with
          | nil =>
            intro gs' off ys hyl h1 h2
            cases gs' with
            | nil => exact ⟨Nat.le_refl _, fun _ => ⟨[], rfl, ⟨by simp [ab9], fun j v c hv => by simp [ab9] at hv⟩, Nat.zero_le _⟩⟩
            | cons => simp [aif] at h1
          | cons f r ih2 =>
            intro gs' off ys hyl h1 h2
            cases gs' with
            | nil => simp [aif] at h1
            | cons g gr =>
              cases ys with
              | nil => simp at hyl
              | cons y yr =>
              simp only [aif, Bool.and_eq_true, beq_iff_eq] at h1
              obtain ⟨e1, e2, e3⟩ := h1
              obtain ⟨k1, k2⟩ := ih2 gr _ yr (by simpa using hyl) e3 fun i g' hg => h2 (i + 1) g' (by simpa using hg)
              simp only [ab9]
              refine ⟨by omega, fun hle => ?_⟩
              obtain ⟨ps, h3, h4, h8⟩ := k2 hle
              have hx := h2 0 g rfl
              rw [List.getElem?_cons_zero] at hx
              rw [e1] at hx
              obtain ⟨qs, h5, h6, h7⟩ := ih f g.type _ y hx e2
              refine ⟨qs ++ ps, ⟨qs, ps, rfl, h5, h3⟩, ?_, by
                have h9 := awx h5
                rw [ad2]; simp only [List.map_cons, List.sum_cons]; omega⟩
              have hcut : (cs.drop off).take (ab9 P gr (off + P.cellsOf g.type) - off) = (cs.drop off).take (P.cellsOf g.type) ++ (cs.drop (off + P.cellsOf g.type)).take (ab9 P gr (off + P.cellsOf g.type) - (off + P.cellsOf g.type)) := by
                rw [show ab9 P gr (off + P.cellsOf g.type) - off = P.cellsOf g.type + (ab9 P gr (off + P.cellsOf g.type) - (off + P.cellsOf g.type)) by omega, List.take_add, List.drop_drop]
              rw [hcut]
              refine ⟨by simp only [List.length_append]; rw [h6.1, h4.1], fun j v c hv hc => ?_⟩
              by_cases hj : j < qs.length
              · rw [List.getElem?_append_left (by rw [h6.1]; exact hj)] at hv
                rw [List.getElem?_append_left hj] at hc
                exact h6.2 j v c hv hc
              · rw [List.getElem?_append_right (by rw [h6.1]; omega)] at hv
                rw [List.getElem?_append_right (by omega)] at hc
                rw [h6.1] at hv
                exact h4.2 _ v c hv hc
        obtain ⟨_, k2⟩ := key fs gs.toList 0 xs (by simpa using hxs) hok fun i g hg => hf i g (by rw [← Array.getElem?_toList]; exact hg)
        obtain ⟨ps, h1, h2, h3⟩ := k2 (by rw [hlen, hsz]; exact Nat.le_refl _)
        have h4 := hB.agg (xs.map (·.1))
        refine ⟨ps, h1, ?_, by simp only [mkV, PV.wt]; omega⟩
        simp only [List.drop_zero, Nat.sub_zero] at h2
        rw [← hsz, ← hlen, List.take_length] at h2
        exact h2
      · cases hok
theorem aep {B : DataW H → Nat} (hB : Bulk B) {r : Reach} {b0 : Nat} {sh : Shp} {t : TypeId} {v : Value} {d : DataW H} {pl : List MemPlace} (hok : adw P sh t = true) (hval : Value.okWide P W r b0 t v)
    (hd : DataW.Trod enc P W 0 (fun _ => true) true t v d pl) : ∃ c, abl sh c ∧ RepP (K0 W) W v (mkV sh c) ∧ (mkV sh c).wt ≤ B d := by
  obtain ⟨fuel, hf⟩ := hd
  obtain ⟨c, h1, h2, h3⟩ := atd hB fuel sh t _ _ hf hok
  refine ⟨c, h1, ?_, h3⟩
  have one : ∀ p, v.cells = #[v] → c = [p] → RepP (K0 W) W v p := fun p e1 e2 => by
    rw [e1, e2] at h2
    exact h2.2 0 v p rfl rfl
  cases sh with
  | bool =>
    simp only [adw] at hok
    split at hok
    · rename_i ht; obtain ⟨b, rfl⟩ := okWide_bool ht hval; obtain ⟨b', rfl⟩ := h1; exact one _ rfl rfl
    · cases hok
  | int k =>
    simp only [adw] at hok
    split at hok
    · rename_i ht; obtain ⟨b, rfl⟩ := okWide_int ht hval; obtain ⟨n, _, rfl⟩ := h1; exact one _ rfl rfl
    · cases hok
  | str =>
    simp only [adw] at hok
    split at hok
    · rename_i ht; obtain ⟨b, rfl⟩ := okWide_string ht hval; obtain ⟨n, _, rfl⟩ := h1; exact one _ rfl rfl
    · cases hok
  | sl sz e =>
    simp only [adw] at hok
    split at hok
    · rename_i ht; obtain ⟨a, l, c', rfl⟩ := okWide_slice ht hval; obtain ⟨n, rfl, _⟩ := h1; exact one _ rfl rfl
    · cases hok
  | struct fs =>
    simp only [adw] at hok
    split at hok
    · rename_i gs ht
      unfold Value.okWide at hval
      rw [ht] at hval
      obtain ⟨cs, rfl, _⟩ := hval
      have h2 : akd W cs.toList c := h2
      exact .agg cs c (by simpa using h2.1) fun j v' c' hv hc => h2.2 j v' c' (by simpa using hv) hc
    · cases hok
end
theorem aee {α : Type} {e : Shp} (enc : α → PV) (W : α → Prop) (hd : ∀ c, abl e c → ∃ a, mkV e c = enc a ∧ W a) {es : List PV} (h : ∀ x ∈ es, ∃ c, x = mkV e c ∧ abl e c) : ∃ xs : List α, es = xs.map enc ∧ ∀ a ∈ xs, W a := by
  induction es with
  | nil => exact ⟨[], rfl, fun a h => by cases h⟩
  | cons x r ih =>
    obtain ⟨xs, rfl, hxs⟩ := ih fun y hy => h y (List.mem_cons_of_mem _ hy)
    obtain ⟨c, rfl, hc⟩ := h x List.mem_cons_self
    obtain ⟨a, e1, e2⟩ := hd c hc
    refine ⟨a :: xs, by rw [e1]; rfl, fun b hb => ?_⟩
    cases hb with
    | head => exact e2
    | tail _ hb => exact hxs b hb
end Go.Proofs.Ytbpjaiemlkcccaa.Pv
end
