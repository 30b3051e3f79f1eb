/- The statement that ranges over a function. -/
import Derived.Test.YtflgoabdgibphaaPvQ
namespace Go.Proofs.Ytflgoabdgibphaa.Pv
open Go
set_option linter.unusedVariables false
set_option linter.unusedSimpArgs false

section
variable {n m : Nat} {F : Nat → Prop} {G : Gh} {env : Env} {σ : Sto} {a : Act} {w : World}

/-- A box that is no more looked into. -/
theorem Sim.toGone (h : Sim n m F G env σ a w) {i : Nat} {st : LoopState} {pend : Option Code} {rcd : Loop} {env0 : Env} (hi : σ[i]? = some (.loop st pend rcd env0)) : Sim n m F G env (σ.set i .gone) a w := by
  have hilt : i < σ.length := (List.getElem?_eq_some_iff.1 hi).1
  have hget : ∀ k e, (σ.set i .gone)[k]? = some e → (k = i ∧ e = .gone) ∨ (k ≠ i ∧ σ[k]? = some e) := by
    intro k e hk
    rw [List.getElem?_set] at hk
    split at hk
    · rename_i e1; cases hk; exact .inl ⟨e1.symm, rfl⟩
    · rename_i e1; exact .inr ⟨fun e2 => e1 e2.symm, hk⟩
  have key : ∀ l, ownAt G env (σ.set i .gone) a.tmps w l = ownAt G env σ a.tmps w l := by
    intro l
    cases l with
    | slot t j => rfl
    | cell k j =>
      simp only [ownAt]
      by_cases e : k = i
      · subst e; rw [hi, List.getElem?_set_self hilt]
      · rw [List.getElem?_set_ne (fun e2 => e e2.symm)]
  refine ⟨h.size, h.rep, fun t => by rw [List.length_set]; exact h.envlt t, fun k e hk => ?_, fun k e hk => ?_, h.kfree, fun k e hk hc => ?_, fun l1 l2 x h1 h2 => ?_, fun l x hl => ?_, h.frlt, h.marks, h.markF, by rw [List.length_set]; exact h.floor⟩
  · rcases hget k e hk with ⟨_, rfl⟩ | ⟨_, hk⟩
    · trivial
    · exact h.sto k e hk
  · rw [List.length_set]
    rcases hget k e hk with ⟨_, rfl⟩ | ⟨_, hk⟩
    · trivial
    · exact h.stolt k e hk
  · rcases hget k e hk with ⟨_, rfl⟩ | ⟨_, hk⟩
    · rcases hc with ⟨c, hc⟩ | ⟨x, y, z, u, hc⟩ <;> cases hc
    · exact h.inj k e hk hc
  · rw [key] at h1 h2; exact h.uniq l1 l2 x h1 h2
  · rw [key] at hl; exact h.fr l x hl

end

section
variable {P : Program} {tt : TT} {n m : Nat} {env : Env} {σ : Sto} {Q : Post}

theorem fn_args {G : Gh} {w : World} {v : Value} {gf : FuncId} {as bs : List PV} (h : RepS G w v (.fn (.func gf) as bs)) : ∃ xs ys : Array Value, v = .func (.func gf) xs ys ∧ xs.size = as.length ∧ ys.size = bs.length ∧
    (∀ (j : Nat) v c, xs[j]? = some v → as[j]? = some c → RepS G w v c) ∧ ∀ (j : Nat) v c, ys[j]? = some v → bs[j]? = some c → RepS G w v c := by
  cases h with
  | pl h => cases h
  | fn f xs ys as bs h1 h2 h3 h4 => exact ⟨xs, ys, rfl, h1, h2, h3, h4⟩

theorem sat_range {g : Operand} {params : Array Tmp} {assign body : Code} {gf : FuncId} {as bs : List PV} (env0 : Env) (hcal : Callable P gf) (hg : opv tt env 0 g = .fn (.func gf) as bs)
    (he0 : ∀ t, look env0 t = .dead ∨ (look env0 t = look env t ∧ (look env t).isS = true)) (htup : ((as ++ bs).all fun p => !p.isTup) = true)
    (h : ∀ rcd : Loop, rcd.tmps.size = n → rcd.params = params → rcd.assign = assign → rcd.body = body →
      ∃ R, SatCall P gf (as ++ (.yld σ.length :: bs)) (σ ++ [.loop .ready none rcd env0]) R ∧ ∀ r σ', R r σ' → ∃ st pend, σ'[σ.length]? = some (.loop st pend rcd env0) ∧ st ≠ .busy ∧
        match pend with
        | none => Q .normal env (σ'.set σ.length .gone)
        | some c => Sat P none n m c env (σ'.set σ.length .gone) Q) :
    Sat P none n m (.rangeFunc g params assign body) env σ Q := by
  refine ⟨fun F G a w hs => ?_⟩
  obtain ⟨fn, hf1, hf2, hf3⟩ := hcal
  refine wpIn_rangeFunc fun fr hfr => ?_
  let rcd : Loop := { state := .ready, pending := none, fn := fr, tmps := a.tmps, params, assign, body, defers := w.heap.size }
  obtain ⟨R, hcall, hback⟩ := h rcd hs.size rfl rfl rfl
  let w1 := w.alloc (.deferred (some []))
  let w2 := w1.alloc (.loop rcd)
  let a' : Act := { a with defers := { target := .collected w.heap.size, args := #[] } :: a.defers }
  have hs1 : Sim n m F ⟨upd G.K w.heap.size .keep, G.bs⟩ env σ a' w1 := hs.pushMark
  have hv1 : Evol m F G w ⟨upd G.K w.heap.size .keep, G.bs⟩ w1 := Evol.alloc hs _ _ _ fun _ _ => rfl
  have hlt0 : ∀ t, (look env0 t).lt σ.length := fun t => by
    rcases he0 t with e | ⟨e, _⟩
    · rw [e]; trivial
    · rw [e]; exact hs.envlt t
  have hs2 := hs1.boxLoop rcd env0 hlt0 (fun t => by
    rcases he0 t with e | ⟨e, e2⟩
    · exact .inl e
    · refine .inr ?_
      have := hs1.rep t
      rw [e]
      exact this.toS e2) rfl rfl
  have hv2 : Evol m F ⟨upd G.K w.heap.size .keep, G.bs⟩ w1 ⟨upd (upd G.K w.heap.size .keep) w1.heap.size (.box σ.length), upd G.bs σ.length ⟨w1.heap.size, (0, 0), false⟩⟩ w2 :=
    Evol.alloc hs1 _ _ _ fun i hi => upd_ne _ _ (by have := hs.floor; omega)
  have hl1 : w1.heap.size = w.heap.size + 1 := by simp [w1]
  generalize hG2 : (⟨upd (upd G.K w.heap.size .keep) w1.heap.size (.box σ.length), upd G.bs σ.length ⟨w1.heap.size, (0, 0), false⟩⟩ : Gh) = G2 at hs2 hv2
  have hbs2 : G2.bs σ.length = w.heap.size + 1 := by rw [← hG2]; simp [upd_same, hl1]
  have hs2 : Sim n m F G2 env (σ ++ [.loop .ready none rcd env0]) a' w2 := hs2
  have hgo := opv_ok hs2 tt 0 g
  have hgl := opv_lt hs2 tt 0 g
  rw [hg] at hgo hgl
  obtain ⟨xs, ys, e1, e2, e3, e4, e5⟩ := fn_args (hgo.toS rfl)
  have e1 : a.eval g = .func (.func gf) xs ys := e1
  simp only [PV.lt] at hgl
  have hS : ∀ {v : Value} {p : PV}, RepS G2 w2 v p → p.lt (σ ++ [Ent.loop .ready none rcd env0]).length → RepO G2 w2 v p ∧ ownB v p = none ∧ p.lt (σ ++ [Ent.loop .ready none rcd env0]).length ∧ p.isTup = false := fun {v p} h hl => ⟨.sh h, ownB_sh h, hl, by
    cases p <;> first | rfl | exact h.notup.elim⟩
  have hlen' : (xs ++ #[Value.func (.yield (w.heap.size + 1)) #[] #[]] ++ ys).size = (as ++ (.yld σ.length :: bs)).length := by simp [e2, e3]; omega
  have hsim := hs2.callee hlen' fun j v p hv hp => by
    rw [← Array.getElem?_toList] at hv
    simp only [Array.toList_append, List.append_assoc] at hv
    by_cases h1 : j < xs.size
    · rw [List.getElem?_append_left (by simpa using h1)] at hv
      rw [List.getElem?_append_left (by omega)] at hp
      exact hS (e4 j v p (by simpa using hv) hp) (ltAll_iff.1 hgl.1 p (List.mem_of_getElem? hp))
    · rw [List.getElem?_append_right (by simp; omega)] at hv
      rw [List.getElem?_append_right (by omega)] at hp
      simp only [Array.length_toList] at hv
      rw [← e2] at hp
      cases hj : j - xs.size with
      | zero =>
        rw [hj] at hv hp
        simp at hv hp
        subst hv; subst hp
        refine hS ?_ (by simp [PV.lt])
        rw [← hbs2]; exact .yld σ.length
      | succ k =>
        rw [hj] at hv hp
        simp at hv hp
        exact hS (e5 k v p (by simpa using hv) hp) (ltAll_iff.1 hgl.2 p (List.mem_of_getElem? hp))
  have n1 : ¬ fn.name = "runtime.NumGoroutine" := by simpa using hf2
  have n2 : ¬ fn.body = none := by intro h; simp [h] at hf3
  refine ⟨w.heap.size + 1, [{ target := .collected w.heap.size, args := #[] }], w2, { target := .fn (.func gf) ys, args := xs ++ #[.func (.yield (w.heap.size + 1)) #[] #[]] }, w2, gf,
    xs ++ #[.func (.yield (w.heap.size + 1)) #[] #[]] ++ ys, w2, run_enterLoop_outer _ _ _ _ _, ?_, fun _ _ => trivial, ?_, fun h => by simp [Wd, Fence.wide] at h, ?_⟩
  · simp only [resolve, e1]; simp [Deferred.ofValue, Act.eval]
  · simp [invoke, callFunc, hf1, n1, n2]
  · refine CallsIn.mono (F := Wd none) (hcall _ G2 w2 _ hlen' hsim) fun e w3 hq => ?_
    obtain ⟨v, r, σ', G', rfl, hR, hs', hv⟩ := hq
    obtain ⟨_, b2, b3⟩ := hs2.back hs' hv
    obtain ⟨st, pend, hi, hne, hrest⟩ := hback r σ' hR
    have hb := b2.sto _ _ hi
    have hbs : (G'.bs σ.length).b = w.heap.size + 1 := (congrArg Bx.b (hv.bs σ.length (by simp))).trans hbs2
    simp only [EntOK, hbs] at hb
    have hend := run_endLoop (P := P) hb.2.1 hne
    obtain ⟨s1, v1⟩ := b2.setLoop hi .exhausted pend
    rw [hbs] at s1 v1
    have hilt := (List.getElem?_eq_some_iff.1 hi).1
    have s2 := s1.toGone (i := σ.length) (by rw [List.getElem?_set_self hilt])
    rw [List.set_set] at s2
    have hv4 := ((hv1.trans hv2).trans b3).trans v1
    refine ⟨_, _, hend, ?_⟩
    cases pend with
    | none => exact ⟨G', env, _, hrest, s2, hv4⟩
    | some c => exact wpIn_mono (hrest.go F G' _ _ s2) fun _ _ _ q => q.evol hv4

end
end Go.Proofs.Ytflgoabdgibphaa.Pv
