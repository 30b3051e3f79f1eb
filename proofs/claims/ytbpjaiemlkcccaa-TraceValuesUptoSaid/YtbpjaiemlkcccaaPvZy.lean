
/- Rounds of a loop over a function that leave boxes behind. -/
import Derived.Test.YtbpjaiemlkcccaaPvZv
namespace Go.Proofs.Ytbpjaiemlkcccaa.Pv
open Go
set_option linter.unusedVariables false
set_option linter.unusedSimpArgs false

section
variable {P : Program} {n : Nat}

theorem af9 {i : Nat} {rec : Loop} {env0 : Env} {σ : Sto} {ps : List PV} {R : Bool → Sto → Prop} (hσ : σ[i]? = some (.loop .ready none rec env0)) (hn : rec.tmps.size = n) (hl : rec.params.toList.length = ps.length)
    (hpar : ∀ t ∈ rec.params.toList, t < n) (hS : ∀ p ∈ ps, p.isS = true)
    (h : ∀ l, Sat P (some l) n σ.length rec.assign (aeh rec.params.toList ps env0) σ fun e env' σ' => e = .normal ∧ σ'[i]? = some (.loop .ready none rec env0) ∧
      Sat P (some l) n σ.length rec.body env' (σ'.set i (.loop .busy none rec env0)) (avw i rec env0 R)) : aea P i ps σ R := by
  rintro ⟨Fp, Fd⟩ G w vs hvs hs
  have hF0 : Fd = [] := hs.marks
  subst hF0
  obtain ⟨hK, hb, hr⟩ := hs.sto i _ hσ
  subst hn
  have hy := run_yield (P := P) (args := vs) hb (by rw [hvs]; simpa using hl.symm)
  obtain ⟨s1, s2, s3⟩ := aiv (G := G) (w := w) (k := σ.length) rec.params.toList vs.toList ps rec.tmps env0 hl (by simpa using hvs) hpar hr (hs.stolt i _ hσ) (fun j v p hv hp => by
    have h1 := hs.rep j
    have h2 := hs.envlt j
    rw [yo, if_pos (Nat.zero_le _), Nat.sub_zero, hp] at h1 h2
    simp only [Option.getD_some] at h1 h2
    have : vs.getD j undef = v := by
      rw [Array.getElem?_toList] at hv
      simp [Array.getD_eq_getD_getElem?, hv]
    rw [this] at h1
    exact ⟨h1.toS (hS p (List.mem_of_getElem? hp)), h2⟩)
  have e0 : (rec.params.zip vs).foldl (fun tmps (t, a) => tmps.setIfInBounds t a) rec.tmps = (rec.params.toList.zip vs.toList).foldl (fun tmps (t, a) => tmps.setIfInBounds t a) rec.tmps := by
    rw [← Array.foldl_toList, Array.toList_zip]
  refine ⟨_, _, _, _, hy, roundIn_of_wpIn trivial ?_⟩
  simp only [e0]
  have hs0 := hs.frame s1 s2
  rw [s3] at hs0
  refine wpIn_mono ((h (G.bs i)).go _ G _ w hs0) fun e a1 w1 q => ?_
  obtain ⟨G1, env1, σ1, ⟨rfl, hσ1, hbody⟩, hs1, hv1⟩ := q
  have hb1 := hs1.sto i _ hσ1
  have hbs1 : G1.bs i = G.bs i := hv1.bs i (List.getElem?_eq_some_iff.1 hσ).1
  simp only [als, hbs1] at hb1
  have hbr := run_beginRound (P := P) hb1.2.1 rfl
  obtain ⟨hs2, hv2⟩ := hs1.setLoop hσ1 .busy none
  rw [hbs1] at hs2 hv2
  refine ⟨_, hbr, ?_⟩
  have hlen : (σ1.set i (.loop .busy none rec env0)).length = σ1.length := List.length_set ..
  refine wpIn_mono (hbody.go _ G1 _ _ hs2) fun e a2 w2 q => ?_
  obtain ⟨G2, env2, σ2, ⟨hσ2, hR⟩, hs3, hv3⟩ := q
  have hb2 := hs3.sto i _ hσ2
  have hbs2 : G2.bs i = G.bs i := (hv3.bs i (List.getElem?_eq_some_iff.1 hσ).1).trans hbs1
  simp only [als, hbs2] at hb2
  have fin : ∀ (jump : Option Code) (st : LoopState), (if jump.isNone then LoopState.ready else .done) = st → R jump.isNone (σ2.set i (.loop st jump rec env0)) →
      ∃ v w', (Instr.endRound (G.bs i) jump).run P w2 = .ok v w' ∧ ∃ b σ' G', Ending.returned v = .returned (.bool b) ∧ R b σ' ∧ Sim 1 σ.length ⟨Fp, []⟩ G' [(0, .bool b)] σ' ⟨#[.bool b], []⟩ w' ∧ Evol σ.length Fp G w G' w' := by
    intro jump st hst hR
    have he := run_endRound (P := P) jump hb2.2.1
    obtain ⟨hs4, hv4⟩ := hs3.setLoop hσ2 st jump
    rw [hbs2] at hs4 hv4
    rw [hst] at he
    refine ⟨_, _, he, jump.isNone, _, G2, rfl, hR, ?_, ((hv1.trans hv2).trans hv3).trans hv4⟩
    have hf := hs4.frame (tmps := #[.bool jump.isNone]) (env' := [(0, .bool jump.isNone)]) (fun t => ?_) (fun t => ?_)
    · exact ⟨hf.size, hf.rep, hf.envlt, hf.sto, hf.stolt, hf.kfree, hf.inj, hf.uniq, hf.fr, hf.frlt, hf.marks, hf.markF, hs4.floor⟩
    · rw [qg]
      by_cases e : t = 0
      · subst e; rw [if_pos rfl]; exact .inr (.pl (.bool _))
      · rw [if_neg e]; exact .inl rfl
    · rw [qg]; split <;> trivial
  cases e with
  | normal => exact fin none .ready rfl hR
  | ret => exact fin (some .ret) .done rfl hR
  | exit id => exact fin (some (.exit id)) .done rfl hR
  | goto t => exact fin (some (.goto t)) .done rfl hR
  | panic c => exact hR.elim
  | outgrown => exact hR.elim

end
end Go.Proofs.Ytbpjaiemlkcccaa.Pv
