/- Regions that draw their order, of which one step leaves a relation: what it answers is not known beforehand. -/
import Derived.Test.YtbpjaiemlkcccaaPvM3
namespace Go.Proofs.Ytbpjaiemlkcccaa.Pv
open Go
set_option linter.unusedVariables false
set_option linter.unusedSimpArgs false

section
variable {P : Program} {l : Option Nat} {n m : Nat} {Q : Post}

def acg (P : Program) (l : Option Nat) (n m : Nat) (all : Array Oper) (A : List Nat) (keys : List (List Nat)) (js : List Nat) (σs : Nat → Sto) (sk : Nat → Bool) : Nat → Env → List Oper → List Ws → Prop
  | _, _, [], [] => True
  | i, env, o :: os, ws :: wss => (ws.map (·.1) = keys.getD i [] ∧ (sk i = false → match zt js i with
      | some b => StepG P l n m all env (σs b) (σs (b + 1)) o ws
      | none => ∀ a, a ≤ js.length → agc A js i a = true → StepG P l n m all env (σs a) (σs a) o ws)) ∧ acg P l n m all A keys js σs sk (i + 1) (ws ++ env) os wss
  | _, _, _, _ => False

theorem aft {all : Array Oper} {A : List Nat} {keys : List (List Nat)} {js : List Nat} {σs : Nat → Sto} {sk : Nat → Bool} : ∀ (ops : List Oper) (wss : List Ws) (b : Nat) (env : Env), acg P l n m all A keys js σs sk b env ops wss → wss.length = ops.length ∧ ∀ (i : Nat) o, ops[i]? = some o → ∃ ws, wss[i]? = some ws ∧
    (ws.map (·.1) = keys.getD (b + i) [] ∧ (sk (b + i) = false → match zt js (b + i) with
      | some c => StepG P l n m all (acf env (wss.take i)) (σs c) (σs (c + 1)) o ws
      | none => ∀ a, a ≤ js.length → agc A js (b + i) a = true → StepG P l n m all (acf env (wss.take i)) (σs a) (σs a) o ws))
  | [], [], _, _, _ => ⟨rfl, fun i o h => by simp at h⟩
  | o :: os, ws :: wss, b, env, h => by
    obtain ⟨h1, h2⟩ := h
    obtain ⟨k1, k2⟩ := aft os wss (b + 1) _ h2
    refine ⟨by simp [k1], fun i o' hi => ?_⟩
    cases i with
    | zero => simp at hi; subst hi; exact ⟨ws, rfl, h1⟩
    | succ i =>
      simp at hi
      obtain ⟨ws', e1, e2⟩ := k2 i o' hi
      rw [show b + 1 + i = b + (i + 1) by omega] at e2
      exact ⟨ws', by simpa using e1, by simpa only [List.take_succ_cons, acf] using e2⟩
  | [], _ :: _, _, _, h => h.elim
  | _ :: _, [], _, _, h => h.elim

theorem akt {ops : List Oper} {k : Nat} {keys : List (List Nat)} {js : List Nat} {σs : Nat → Sto} {wss : List Ws} {env : Env} {sk : Nat → Bool} (J : Array Bool → Prop) (hJ : ∀ listed i, J listed → sk i = false → i < listed.size → J (listed.setIfInBounds i true)) (hok : okG ops k keys js = true) (ht : xu ops k = true) (hst : acg P l n m ops.toArray (zm ops) keys js σs sk 0 env (ops.take k) wss) {Q' : Exit → Act → World → Prop} {F : Fr} {G : Gh} {w : World}
    (hQ : (∃ listed, J listed ∧ ∀ i, i < k → listed.getD i true = true) → ∀ a w' G', Sim n m F G' (acf env wss) (σs js.length) a w' → Evol m F G w G' w' → wpListIn (Wd l) 0 P ops.toArray Q' (ops.drop k) a w')
    (hsp : ∀ (fuel : Nat) (listed : Array Bool) (a : Act) (w' : World) (G' : Gh) (env' : Env), J listed → listed.size = ops.length → ((List.range ops.length).filter fun i => !listed.getD i true).length ≤ fuel + 1 →
      Sim n m F G' env' (σs (stg js fun i => listed.getD i true)) a w' → Evol m F G w G' w' → (∀ i, i < ops.length → listed.getD i true = true → i < k) →
      (∀ t, look env' t = look (yn 0 env wss fun i => listed.getD i true) t) → Closed ops listed → ∀ (i : Nat) (o : Oper), i < k → ops[i]? = some o → sk i = true → listed.getD i true = false → (∀ e ∈ o.after.toList, Region.binds .any e = true → listed.getD e.on true = true) →
      (∀ t ∈ readsOf ops.toArray o, look env' t = look (acf env (wss.take i)) t) → (∀ b, zt js i = some b → (stg js fun i => listed.getD i true) = b ∧ (stg js fun j => (listed.setIfInBounds i true).getD j true) = b + 1) →
      (∀ wss' : List Ws, ∀ ws, wss'[i]? = some ws → (∀ i ws, wss'[i]? = some ws → ws.map (·.1) = keys.getD i []) → wss'.length = k → (∀ t, look env' t = look (yn 0 env wss' fun i => listed.getD i true) t) → ∀ t, look (ws ++ env') t = look (yn 0 env wss' fun j => (listed.setIfInBounds i true).getD j true) t) →
      ((List.range ops.length).filter fun j => !(listed.setIfInBounds i true).getD j true).length ≤ fuel →
      wpOpIn (Wd l) 0 P ops.toArray Q' i (fun a2 w2 => wpAnyIn (Wd l) 0 P .any ops.toArray Q' fuel (listed.setIfInBounds i true) a2 w2) a w') : ∀ (fuel : Nat) (listed : Array Bool) (a : Act) (w' : World) (G' : Gh) (env' : Env), J listed → listed.size = ops.length → ((List.range ops.length).filter fun i => !listed.getD i true).length ≤ fuel →
      Sim n m F G' env' (σs (stg js fun i => listed.getD i true)) a w' → Evol m F G w G' w' → (∀ i, i < ops.length → listed.getD i true = true → i < k) →
      (∀ t, look env' t = look (yn 0 env wss fun i => listed.getD i true) t) → Closed ops listed → wpAnyIn (Wd l) 0 P .any ops.toArray Q' fuel listed a w' := by
  obtain ⟨hpl, hget⟩ := aft (ops.take k) wss 0 env hst
  have hkl : k ≤ ops.length := by simp only [xu, Bool.and_eq_true] at ht; exact nlb ht.1
  have hpl2 : wss.length = k := by rw [hpl, List.length_take]; omega
  have htk : ∀ {i : Nat} {o : Oper}, i < k → ops[i]? = some o → (ops.take k)[i]? = some o := fun {i o} hi ho => by rw [List.getElem?_take, if_pos hi]; exact ho
  have hex : ∀ {i : Nat}, i < k → ∃ o, ops[i]? = some o := fun {i} hi => ⟨ops[i], by simp⟩
  have hjs : ∀ b, b < js.length → js.getD b 0 < k ∧ ∀ c, c < b → anc (zm ops) (js.getD b 0) (js.getD c 0) = true ∧ js.getD b 0 ≠ js.getD c 0 := by
    intro b hb
    have h := hok
    simp only [okG, Bool.and_eq_true] at h
    have h1 := ut h.2 hb
    simp only [Bool.and_eq_true] at h1
    refine ⟨nlb h1.1, fun c hc => ?_⟩
    have h2 := ut h1.2 hc
    simp only [Bool.and_eq_true, Bool.not_eq_true'] at h2
    exact ⟨h2.1, fun e => by rw [e] at h2; simp at h2⟩
  have hkey : ∀ i ws, wss[i]? = some ws → ws.map (·.1) = keys.getD i [] := by
    intro i ws hi
    have hik : i < k := by rw [← hpl2]; exact (List.getElem?_eq_some_iff.1 hi).1
    obtain ⟨o, ho⟩ := hex hik
    obtain ⟨ws', e1, e2, _⟩ := hget i o (htk hik ho)
    rw [hi] at e1; cases e1
    rw [Nat.zero_add] at e2; exact e2
  have hpre : ∀ listed : Array Bool, Closed ops listed → ∀ b, b < js.length → (listed.getD (js.getD b 0) true = true ↔ b < stg js fun i => listed.getD i true) := fun listed hc =>
    aol (s := fun i => listed.getD i true) fun b c hcb hb hs => by
      obtain ⟨q1, q2⟩ := hjs b hb
      obtain ⟨o, ho⟩ := hex q1
      exact ad3 ho (q2 c hcb).1 hc hs
  have hfin : ∀ (fuel : Nat) (listed : Array Bool) (a : Act) (w' : World) (G' : Gh) (env' : Env), J listed → listed.size = ops.length → ((List.range ops.length).filter fun i => !listed.getD i true).length ≤ fuel → (∀ i, i < k → listed.getD i true = true) → (∀ i, i < ops.length → listed.getD i true = true → i < k) → Sim n m F G' env' (σs (stg js fun i => listed.getD i true)) a w' → Evol m F G w G' w' →
      (∀ t, look env' t = look (yn 0 env wss fun i => listed.getD i true) t) → Closed ops listed → wpAnyIn (Wd l) 0 P .any ops.toArray Q' fuel listed a w' := by
    intro fuel listed a w' G' env' hJl hsz hfu hall hsub hs hv hlk hc
    have hstg : stg js (fun i => listed.getD i true) = js.length := by
      unfold stg
      rw [List.filter_eq_self.2 fun x hx => ?_]
      obtain ⟨b, hb, e⟩ := List.getElem_of_mem hx
      have := (hjs b hb).1
      rw [List.getD_eq_getElem?_getD, List.getElem?_eq_getElem hb] at this
      exact hall x (by simpa [e] using this)
    rw [hstg] at hs
    refine ag4 ht fuel k listed a w' (Nat.le_refl _) hkl ?_ hsz hc (fun j hj => ⟨hsub j hj, hall j⟩) (hQ ⟨listed, hJl, hall⟩ a w' G' (hs.weaken fun t => .inr (.inl ?_)) hv)
    · have hsub2 : ((List.range ops.length).filter fun i => Nat.ble k i).length ≤ ((List.range ops.length).filter fun i => !listed.getD i true).length := by
        have e : ((List.range ops.length).filter fun i => Nat.ble k i) = ((List.range ops.length).filter fun i => !listed.getD i true).filter fun i => Nat.ble k i := by
          rw [List.filter_filter]
          refine List.filter_congr fun x hx => ?_
          have hx := List.mem_range.1 hx
          cases hb : Nat.ble k x with
          | false => simp
          | true =>
            have := nlb hb
            have : listed.getD x true = false := by
              cases hh : listed.getD x true with
              | false => rfl
              | true => have := hsub x hx hh; omega
            simp [this]
        rw [e]; exact List.length_filter_le _ _
      have hcount : ∀ n, k ≤ n → ((List.range n).filter fun i => Nat.ble k i).length = n - k := by
        intro n
        induction n with
        | zero => intro _; simp
        | succ n ih =>
          intro hn
          rw [List.range_succ, List.filter_append, List.length_append]
          by_cases e : k ≤ n
          · have hb : Nat.ble k n = true := by simp only [Nat.ble_eq]; exact e
            rw [ih e, List.filter_cons_of_pos hb]; simp; omega
          · have hk : k = n + 1 := by omega
            have hz : ((List.range n).filter fun i => Nat.ble k i) = [] := by
              rw [List.filter_eq_nil_iff]; intro x hx hb; have := List.mem_range.1 hx; have := nlb hb; omega
            have hz2 : ([n].filter fun i => Nat.ble k i) = [] := by
              rw [List.filter_eq_nil_iff]; intro x hx hb; have := List.mem_singleton.1 hx; have := nlb hb; omega
            rw [hz, hz2]; simp; omega
      have := hcount ops.length hkl
      omega
    · rw [hlk t, afn wss 0 env _ fun i hi => by rw [Nat.zero_add]; exact hall i (by omega)]
  intro fuel
  induction fuel with
  | zero =>
    intro listed a w' G' env' hJl hsz hfu hs hv h0 hlk hc
    refine hfin 0 listed a w' G' env' hJl hsz hfu (fun i hi => ?_) h0 hs hv hlk hc
    cases hl : listed.getD i true with
    | true => rfl
    | false =>
      have : i ∈ (List.range ops.length).filter fun i => !listed.getD i true := List.mem_filter.2 ⟨List.mem_range.2 (by omega), by simp [hl]⟩
      rw [List.length_eq_zero_iff.1 (Nat.le_zero.1 hfu)] at this; cases this
  | succ fuel ih =>
    intro listed a w' G' env' hJl hsz hfu hs hv h0 hlk hc
    by_cases hall : ∀ i, i < k → listed.getD i true = true
    · exact hfin (fuel + 1) listed a w' G' env' hJl hsz hfu hall h0 hs hv hlk hc
    · have hready : ∃ i, i ∈ Region.ready .any ops.toArray listed := by
        have : ∃ i, i < k ∧ listed.getD i true = false := by
          refine Classical.byContradiction fun hn => hall fun i hi => ?_
          cases hb : listed.getD i true with
          | true => rfl
          | false => exact absurd ⟨i, hi, hb⟩ hn
        obtain ⟨i, ⟨hik, hif⟩, hmin⟩ := adn this
        have hio : ops[i]? = some ops[i] := by simp
        have hf := afv hok hik hio
        refine ⟨i, mem_ready.2 ⟨_, hio, hif, fun e he hb => ?_⟩⟩
        have hon := hf.back e he hb
        rw [aap hsz (by omega)]
        cases hb' : listed.getD e.on true with
        | true => rfl
        | false => have := hmin e.on ⟨by omega, hb'⟩; omega
      refine ⟨fun hr => (by obtain ⟨i, hi⟩ := hready; rw [hr] at hi; cases hi), fun i hi => ?_⟩
      obtain ⟨o, ho, hl, hrdy⟩ := mem_ready.1 hi
      have hil := (List.getElem?_eq_some_iff.1 ho).1
      have hik : i < k := by
        rcases Nat.lt_or_ge i k with h | h
        · exact h
        · exfalso
          refine hall fun j hj => ?_
          have hT := ht
          simp only [xu, Bool.and_eq_true] at hT
          have := ut hT.2 hil
          simp only [Bool.or_eq_true, Bool.and_eq_true, ho] at this
          rcases this with h' | ⟨c1, c2⟩
          · have := nlb h'; omega
          · exact ab8 hc hsz 30 i j o ho (ut c1 (by omega)) fun e he hb => by
              have h1 := hrdy e he hb
              have := afe (List.all_eq_true.1 c2 e he) hb
              rw [aap hsz (by omega)] at h1; exact h1
      obtain ⟨ws, e3, e5, e4⟩ := hget i o (htk hik ho)
      have hf := afv hok hik ho
      have hrdy' : ∀ e ∈ o.after.toList, Region.binds .any e = true → listed.getD e.on true = true := fun e he hb => by
        have h1 := hrdy e he hb
        rw [aap hsz (by have := hf.back e he hb; omega)] at h1; exact h1
      have hbef : ∀ j, anc (zm ops) i j = true → listed.getD j true = true := fun j hj => af6 ho hj hc hrdy'
      have haft : ∀ j, j < k → anc (zm ops) j i = true → listed.getD j true = false := fun j hj ha => by
        cases hlj : listed.getD j true with
        | false => rfl
        | true =>
          obtain ⟨oj, hoj⟩ := hex hj
          have := ad3 hoj ha hc hlj
          rw [hl] at this; cases this
      have hsame : ∀ t ∈ readsOf ops.toArray o, look env' t = look (acf env (wss.take i)) t := by
        intro t ht'
        rw [hlk t, ← afn (wss.take i) 0 env (fun j => Nat.ble (j + 1) i) fun j hj => by
          rw [List.length_take] at hj
          rw [Nat.zero_add]; simp only [Nat.ble_eq]; omega]
        have hcut : look (yn 0 env wss fun j => Nat.ble (j + 1) i) t = look (yn 0 env (wss.take i) fun j => Nat.ble (j + 1) i) t := by
          have key : ∀ (l1 l2 : List Ws) (b : Nat) (env : Env), l1.length = i - b → look (yn b env (l1 ++ l2) fun j => Nat.ble (j + 1) i) t = look (yn b env l1 fun j => Nat.ble (j + 1) i) t := by
            intro l1
            induction l1 with
            | nil =>
              intro l2 b env hlen
              rw [List.nil_append]
              exact ads l2 b env fun q ws' _ _ => by
                simp only [List.length_nil] at hlen
                cases hx : Nat.ble (b + q + 1) i with
                | false => rfl
                | true => have := nlb hx; omega
            | cons x r ihl =>
              intro l2 b env hlen
              rw [List.cons_append, aen, aen]
              exact ihl l2 (b + 1) _ (by simp at hlen; omega)
          have := key (wss.take i) (wss.drop i) 0 env (by rw [List.length_take]; omega)
          rwa [List.take_append_drop] at this
        rw [← hcut]
        refine ae4 wss 0 env env (fun j wj hj htj => ?_) rfl
        rw [Nat.zero_add]
        have hjk : j < k := by rw [← hpl2]; exact (List.getElem?_eq_some_iff.1 hj).1
        rw [hkey j wj hj] at htj
        by_cases hji : j = i
        · subst hji
          show listed.getD j true = Nat.ble (j + 1) j
          rw [hl]
          symm
          cases hx : Nat.ble (j + 1) j with
          | false => rfl
          | true => have := nlb hx; omega
        · rcases hf.reads t ht' j hjk hji htj with ⟨q1, q2⟩ | ⟨q1, q2⟩
          · rw [hbef j q2]; symm; simp only [Nat.ble_eq]; omega
          · show listed.getD j true = Nat.ble (j + 1) i
            rw [haft j hjk q2]
            symm
            cases hx : Nat.ble (j + 1) i with
            | false => rfl
            | true => have := nlb hx; omega
      have hset : ∀ j, (listed.setIfInBounds i true).getD j true = (listed.getD j true || Nat.beq j i) := fun j => by
        rw [yt (by omega)]
        by_cases e : j = i
        · subst e; simp
        · have : Nat.beq j i = false := by
            cases hx : Nat.beq j i with
            | false => rfl
            | true => exact absurd (Nat.eq_of_beq_eq_true hx) e
          rw [if_neg e, this, Bool.or_false]
      have hfuel' : ((List.range ops.length).filter fun j => !(listed.setIfInBounds i true).getD j true).length ≤ fuel := by
        have hsub : ((List.range ops.length).filter fun j => !(listed.setIfInBounds i true).getD j true) = (((List.range ops.length).filter fun j => !listed.getD j true).filter fun j => !(listed.setIfInBounds i true).getD j true) := by
          rw [List.filter_filter]
          congr 1
          funext j
          rw [yt (by omega)]
          by_cases e : j = i
          · simp [e]
          · simp [e]
        rw [hsub]
        have := List.length_filter_lt_length_iff_exists (p := fun j => !(listed.setIfInBounds i true).getD j true) (l := (List.range ops.length).filter fun j => !listed.getD j true)
        have h5 := this.2 ⟨i, List.mem_filter.2 ⟨List.mem_range.2 hil, by simp [hl]⟩, by rw [yt (by omega)]; simp⟩
        omega
      have hput : ∀ wss' : List Ws, ∀ ws, wss'[i]? = some ws → (∀ i ws, wss'[i]? = some ws → ws.map (·.1) = keys.getD i []) → wss'.length = k → (∀ t, look env' t = look (yn 0 env wss' fun i => listed.getD i true) t) → ∀ t, look (ws ++ env') t = look (yn 0 env wss' fun j => (listed.setIfInBounds i true).getD j true) t := by
        intro wss' ws' e3' hkey' hlen' hlk' t
        have e6 : (fun j => (listed.setIfInBounds i true).getD j true) = fun j => listed.getD j true || Nat.beq j i := funext hset
        rw [e6, ← aja (q := i) (wq := ws') (s := fun j => listed.getD j true) hl wss' 0 env (Nat.zero_le _) (by simpa using e3') fun j wj hj ht1 ht2 hlt => ?_]
        · exact adr fun _ => hlk' t
        · rw [Nat.zero_add] at hlt ⊢
          have hjk : j < k := by rw [← hlen']; exact (List.getElem?_eq_some_iff.1 hj).1
          rw [hkey' j wj hj] at ht2
          rw [hkey' i ws' e3'] at ht1
          rcases hf.writes t ht1 j hjk (by omega) ht2 with ⟨q1, q2⟩ | ⟨q1, _⟩
          · exact haft j hjk q2
          · omega
      have hc2 := hc.set (by omega : i < listed.size) ho hrdy'
      have hturn : ∀ b, zt js i = some b → (stg js fun j => listed.getD j true) = b ∧ (stg js fun j => (listed.setIfInBounds i true).getD j true) = b + 1 := by
        intro b hT
        obtain ⟨hb, hbi⟩ := ai0 hT
        have hst1 : stg js (fun j => listed.getD j true) = b := by
          have p1 := hpre listed hc
          have q1 : ¬ b < stg js (fun j => listed.getD j true) := by
            rw [← p1 b hb, hbi, hl]; simp
          have q2 : ∀ c, c < b → c < stg js (fun j => listed.getD j true) := fun c hcb => by
            rw [← p1 c (by omega)]
            have := ((hjs b hb).2 c hcb).1
            rw [hbi] at this
            exact hbef _ this
          rcases Nat.eq_zero_or_pos b with h | h
          · omega
          · have := q2 (b - 1) (by omega); omega
        have hst2 : stg js (fun j => (listed.setIfInBounds i true).getD j true) = b + 1 := by
          have p1 := hpre _ hc2
          have q1 : b < stg js (fun j => (listed.setIfInBounds i true).getD j true) := by
            rw [← p1 b hb, hbi, yt (by omega), if_pos rfl]
          have q2 : ¬ b + 1 < stg js (fun j => (listed.setIfInBounds i true).getD j true) := by
            intro hlt
            have hle := aj8 js fun j => (listed.setIfInBounds i true).getD j true
            have h4 := (p1 (b + 1) (by omega)).2 hlt
            have h5 := (hjs (b + 1) (by omega)).2 b (by omega)
            rw [yt (by omega), if_neg (fun e => h5.2 (by rw [e, hbi]))] at h4
            have := haft _ (hjs (b + 1) (by omega)).1 (by rw [hbi] at h5; exact h5.1)
            rw [h4] at this; cases this
          omega
        exact ⟨hst1, hst2⟩
      by_cases hsk : sk i = true
      · exact hsp fuel listed a w' G' env' hJl hsz hfu hs hv h0 hlk hc i o hik ho hsk hl hrdy' hsame hturn hput hfuel'
      have hsk : sk i = false := by simpa using hsk
      have hnext : ∀ a2 w2 G2, Sim n m F G2 (ws ++ env') (σs (stg js fun j => (listed.setIfInBounds i true).getD j true)) a2 w2 → Evol m F G' w' G2 w2 → wpAnyIn (Wd l) 0 P .any ops.toArray Q' fuel (listed.setIfInBounds i true) a2 w2 := fun a2 w2 G2 hs2 hv2 => by
        refine ih (listed.setIfInBounds i true) a2 w2 G2 _ (hJ _ _ hJl hsk (by omega)) (by simpa using hsz) hfuel' hs2 (hv.trans hv2) (fun j hj hl' => ?_) (hput wss ws e3 hkey hpl2 hlk) hc2
        rw [yt (by omega)] at hl'
        split at hl'
        · omega
        · exact h0 j hj hl'
      rw [Nat.zero_add] at e4
      have e4 := e4 hsk
      cases hT : zt js i with
      | some b =>
        rw [hT] at e4
        obtain ⟨hst1, hst2⟩ := hturn b hT
        rw [hst1] at hs
        rw [hst2] at hnext
        exact e4.go env' hsame F G' a w' hs i _ Q' (by simpa using ho) fun a2 w2 G2 hs2 hv2 => hnext a2 w2 G2 hs2 hv2
      | none =>
        rw [hT] at e4
        have hnj := aix hT
        have hst1 : stg js (fun j => (listed.setIfInBounds i true).getD j true) = stg js fun j => listed.getD j true :=
          aow fun x hx => by
            rw [yt (by omega), if_neg fun e => hnj (by rw [← e]; exact hx)]
        rw [hst1] at hnext
        refine (e4 _ (aj8 _ _) ?_).go env' hsame F G' a w' hs i _ Q' (by simpa using ho) fun a2 w2 G2 hs2 hv2 => hnext a2 w2 G2 hs2 hv2
        rw [agc, List.all_eq_true]
        intro b hb
        have hb := List.mem_range.1 hb
        have p1 := hpre listed hc b hb
        rw [Bool.and_eq_true]
        refine ⟨?_, ?_⟩
        · cases hA : anc (zm ops) i (js.getD b 0) with
          | false => rfl
          | true =>
            have := p1.1 (hbef _ hA)
            simp only [Bool.not_true, Bool.false_or, Nat.ble_eq]; omega
        · cases hA : anc (zm ops) (js.getD b 0) i with
          | false => rfl
          | true =>
            have h6 := haft _ (hjs b hb).1 hA
            have : ¬ b < stg js fun j => listed.getD j true := by rw [← p1, h6]; simp
            simp only [Bool.not_true, Bool.false_or, Nat.ble_eq]; omega


theorem aj7 {s : Nat → Bool} : ∀ (l1 l2 : List Ws) (b : Nat) (env : Env), l1.length = l2.length → (∀ i, i < l1.length → s (b + i) = true → l1[i]? = l2[i]?) → yn b env l1 s = yn b env l2 s
  | [], [], _, _, _, _ => rfl
  | x :: r, y :: q, b, env, hl, h => by
    have e : (bif s b then x ++ env else env) = (bif s b then y ++ env else env) := by
      cases hb : s b with
      | false => rfl
      | true =>
        have := h 0 (by simp) (by simpa using hb)
        simp at this; rw [this]
    show yn (b + 1) (bif s b then x ++ env else env) r s = yn (b + 1) (bif s b then y ++ env else env) q s
    rw [e]
    exact aj7 r q (b + 1) _ (by simpa using hl) fun i hi hs => by
      have := h (i + 1) (by simp; omega) (by rw [show b + (i + 1) = b + 1 + i by omega]; exact hs)
      simpa using this
  | [], _ :: _, _, _, hl, _ => by simp at hl
  | _ :: _, [], _, _, hl, _ => by simp at hl

structure StepR {α : Type} (P : Program) (l : Option Nat) (n m : Nat) (all : Array Oper) (env : Env) (σ0 : Sto) (R : α → Prop) (σ1 : α → Sto) (o : Oper) (ws : α → Ws) : Prop where
  go : ∀ (env0 : Env), (∀ t ∈ readsOf all o, look env0 t = look env t) → ∀ F G a w, Sim n m F G env0 σ0 a w → ∀ (i : Nat) (K : Act → World → Prop) (Q' : Exit → Act → World → Prop), all[i]? = some o →
    (∀ c, R c → ∀ a' w' G', Sim n m F G' (ws c ++ env0) (σ1 c) a' w' → Evol m F G w G' w' → K a' w') → wpOpIn (Wd l) 0 P all Q' i K a w

theorem al0 {α : Type} {all : Array Oper} {env : Env} {σ0 : Sto} {R : α → Prop} {σ1 : α → Sto} {o : Oper} {ws : α → Ws}
    (h : ∀ env0 : Env, SatOps P l n m all [o] (yj env (readsOf all o) ++ env0) σ0 fun e env' σ' => e = .normal ∧ ∃ c, R c ∧ env' = ws c ++ (yj env (readsOf all o) ++ env0) ∧ σ' = σ1 c) : StepR P l n m all env σ0 R σ1 o ws := by
  refine ⟨fun env0 hag F G a w hs i K Q' hi hK => ?_⟩
  have hlk : ∀ t, look (yj env (readsOf all o) ++ env0) t = look env0 t := by
    intro t
    by_cases ht : t ∈ (yj env (readsOf all o)).map (·.1)
    · have key : ∀ (ts : List Nat), (∀ u ∈ ts, look env0 u = look env u) → look (yj env ts ++ env0) t = look env0 t := by
        intro ts
        induction ts with
        | nil => intro _; rfl
        | cons u r ih =>
          intro hu
          show look ((u, look env u) :: (yj env r ++ env0)) t = look env0 t
          rw [qg]
          by_cases e : t = u
          · subst e; rw [if_pos rfl]; exact (hu t List.mem_cons_self).symm
          · rw [if_neg e]; exact ih fun v hv => hu v (List.mem_cons_of_mem _ hv)
      exact key _ hag
    · exact acr ht
  have h1 := (h env0).go F G a w (hs.weaken fun t => .inr (.inl (hlk t)))
  have hfin : ∀ a' w', abz n m F G w (fun e env' σ' => e = .normal ∧ ∃ c, R c ∧ env' = ws c ++ (yj env (readsOf all o) ++ env0) ∧ σ' = σ1 c) .normal a' w' → K a' w' := by
    rintro a' w' ⟨G', env', σ', ⟨_, c, hc, rfl, rfl⟩, hs', hv⟩
    exact hK c hc _ _ _ (hs'.weaken fun t => .inr (.inl (adr fun _ => (hlk t).symm))) hv
  unfold wpOpIn
  simp only [hi]
  simp only [wpListIn] at h1
  split
  · rename_i hw
    rw [if_pos hw] at h1
    refine ado (fun a' w' q => hfin a' w' q) (fun e a' w' hne q => ?_) h1
    obtain ⟨G', env', σ', ⟨he, _⟩, _⟩ := q
    exact absurd he hne
  · rename_i hw
    rw [if_neg hw] at h1
    exact ⟨h1.1, hfin _ _ h1.2⟩

def skR (A : List Nat) (j i : Nat) : Bool := Nat.beq i j || anc A i j

theorem an4 {α : Type} {id k j : Nat} {js : List Nat} {keys : List (List Nat)} {σ : Sto} {σs : α → Nat → Sto} {wss0 : List Ws} {wss : α → List Ws} {R : α → Prop} {wsj : α → Ws} {ops : List Oper} {env : Env} {oj : Oper}
    (hm : P.follows .mixedOrders = true) (hok : okG ops k keys (j :: js) = true) (ht : xu ops k = true) (hjk : Nat.ble (j + 1) k = true) (hoj : ops[j]? = some oj)
    (h0 : acg P l n m ops.toArray (zm ops) keys (j :: js) (fun _ => σ) (skR (zm ops) j) 0 env (ops.take k) wss0)
    (hstep : StepR P l n m ops.toArray (acf env (wss0.take j)) σ R (fun c => σs c 1) oj wsj)
    (hc : ∀ c, R c → acg P l n m ops.toArray (zm ops) keys (j :: js) (σs c) (fun i => Nat.beq i j) 0 env (ops.take k) (wss c) ∧ (wss c)[j]? = some (wsj c) ∧ (∀ i, i < k → skR (zm ops) j i = false → wss0[i]? = (wss c)[i]?) ∧
      SatOps P l n m ops.toArray (ops.drop k) (acf env (wss c)) (σs c (j :: js).length) Q) : Sat P l n m (.region id ops.toArray true) env σ Q := by
  refine ⟨fun F G a w hs => ?_⟩
  refine wpIn_region_any hm ?_
  have hs' := hs.drew
  have hjk := nlb hjk
  have hlen := (aft _ _ _ _ h0).1
  have hkl : k ≤ ops.length := by simp only [xu, Bool.and_eq_true] at ht; exact nlb ht.1
  have hlen0 : wss0.length = k := by rw [hlen, List.length_take]; omega
  have hcl : ∀ (i : Nat), i < ops.length → (Array.replicate ops.toArray.size false).getD i true = false := fun i hi => by simp [Array.getD_eq_getD_getElem?, hi]
  have hjs0 : ∀ x ∈ j :: js, x < k := by
    intro x hx
    obtain ⟨b, hb, e⟩ := List.getElem_of_mem hx
    have h := hok
    simp only [okG, Bool.and_eq_true] at h
    have h3 := ut h.2 hb
    simp only [Bool.and_eq_true] at h3
    have h4 := nlb h3.1
    rw [List.getD_eq_getElem?_getD, List.getElem?_eq_getElem hb] at h4
    simp only [Option.getD_some, e] at h4
    omega
  have hturnj : zt (j :: js) j = some 0 := by
    simp [zt, List.range_succ_eq_map]
  refine akt (sk := skR (zm ops) j) (σs := fun _ => σ) (fun listed => listed.getD j true = false) (fun listed i hJl hsk hi => ?_) hok ht h0 (F := F) (G := G) (w := w) (fun ⟨listed, hJl, hall⟩ => by rw [hall j hjk] at hJl; cases hJl) ?_ _ _ a w.drew G env ?_ (by simp) (by have := List.length_filter_le (fun i => !(Array.replicate ops.length false).getD i true) (List.range ops.length); simpa only [List.length_range, List.size_toArray] using this) hs' (Evol.drew hs) (fun i hi hl => ?_) (fun t => ?_) (fun i o hi hl => ?_)
  · have hne : i ≠ j := fun e => by subst e; simp [skR] at hsk
    rw [yt hi, if_neg (fun e => hne e.symm)]; exact hJl
  · intro fuel listed a1 w1 G1 env1 hJl hsz hfu hs1 hv1 hsub hlk hcls i o hik ho hsk hl hrdy hsame hturn hput hfu1
    by_cases hij : i = j
    · subst hij
      rw [ho] at hoj; cases hoj
      refine hstep.go env1 hsame F G1 a1 w1 hs1 i _ _ (by simpa using ho) fun c hR a2 w2 G2 hs2 hv2 => ?_
      obtain ⟨d1, d2, d3, d4⟩ := hc c hR
      have hget := aft _ _ _ _ d1
      have hlenc : (wss c).length = k := by rw [hget.1, List.length_take]; omega
      have hkey : ∀ q ws, (wss c)[q]? = some ws → ws.map (·.1) = keys.getD q [] := by
        intro q ws hq
        have hqk : q < k := by rw [← hlenc]; exact (List.getElem?_eq_some_iff.1 hq).1
        obtain ⟨ws', e1, e2, _⟩ := hget.2 q ops[q] (by rw [List.getElem?_take, if_pos hqk]; simp)
        rw [hq] at e1; cases e1
        rw [Nat.zero_add] at e2; exact e2
      have hagr : yn 0 env wss0 (fun q => listed.getD q true) = yn 0 env (wss c) (fun q => listed.getD q true) := by
        refine aj7 _ _ _ _ (by omega) fun q hq hlq => ?_
        rw [Nat.zero_add] at hlq
        refine d3 q (by omega) ?_
        cases hx : skR (zm ops) i q with
        | false => rfl
        | true =>
          exfalso
          simp only [skR, Bool.or_eq_true] at hx
          rcases hx with hx | hx
          · have := Nat.eq_of_beq_eq_true hx; subst this; rw [hl] at hlq; cases hlq
          · have hq2 : q < ops.length := by omega
            have := ad3 (i := q) (o := ops[q]) (by simp) hx hcls hlq
            rw [hl] at this; cases this
      have hst := hturn 0 hturnj
      have hlk2 := hput (wss c) (wsj c) d2 hkey hlenc (fun t => by rw [hlk t, hagr])
      refine akt (sk := fun q => Nat.beq q i) (σs := σs c) (fun listed => listed.getD i true = true) (fun listed q hJ2 hq hqs => ?_) hok ht d1 (F := F) (G := G1) (w := w1) (fun _ a' w' G' hs3 hv3 => abe (hv1.trans hv3) _ _ _ (d4.go F G' a' w' hs3)) ?_ _ _ a2 w2 G2 _ ?_ (by simpa using hsz) hfu1 (by rw [hst.2]; exact hs2) hv2 (fun q hq hlq => ?_) hlk2 (hcls.set (by omega) ho hrdy)
      · rw [yt hqs]; split
        · rfl
        · exact hJ2
      · intro _ listed2 _ _ _ _ hJ2 _ _ _ _ _ _ _ q _ _ _ hq hlq _ _ _ _ _
        have := Nat.eq_of_beq_eq_true hq; subst this
        rw [hJ2] at hlq; cases hlq
      · rw [yt (by omega), if_pos rfl]
      · rw [yt (by omega)] at hlq
        split at hlq
        · omega
        · exact hsub q hq hlq
    · exfalso
      simp only [skR, Bool.or_eq_true] at hsk
      rcases hsk with hx | hx
      · exact hij (Nat.eq_of_beq_eq_true hx)
      · have := af6 ho hx hcls hrdy
        rw [hJl] at this; cases this
  · exact hcl j (by omega)
  · rw [hcl i hi] at hl; cases hl
  · refine (ads wss0 0 env fun i ws hi _ => ?_).symm
    rw [Nat.zero_add]
    have := (List.getElem?_eq_some_iff.1 hi).1
    exact hcl i (by omega)
  · rw [hcl i (List.getElem?_eq_some_iff.1 hi).1] at hl; cases hl
end
section
variable {P : Program} {l : Option Nat} {tt : TT} {n m : Nat} {all : Array Oper} {rest : List Oper} {env : Env} {σ : Sto} {Q : Post} {ty : TypeId} {pos : String} {after : Array Edge}
def ac4 (z : List PV) (len sz : Nat) : List PV := (List.range (len * sz)).map fun j => z.getD (j % sz) .dead
theorem ac1 (z : List PV) (len sz : Nat) : (ac4 z len sz).length = len * sz := by simp [ac4]
theorem arp (ht : oq P tt) {tD : TypeId} {x : Operand} {e : TI} {i off sz len cap : Nat} {cs : List PV} (he : eti tt tD = some e) (hsz : Nat.beq e.size sz = true) (hS : e.zero.all PV.isS = true) (h1 : e.zero.all PV.one = true)
    (hx : opv tt env tD x = .xsl i off sz len cap) (hi : σ[i]? = some (.cells cs)) (hle : off + len * sz ≤ cs.length)
    (h : SatOps P l n m all rest env (σ.set i (.cells (putAt cs off (ac4 e.zero len sz)))) Q) :
    SatOps P l n m all (⟨none, .call ⟨.builtin .clear, #[x], #[tD]⟩, ty, pos, after, none⟩ :: rest) env σ Q := by
  refine ym rfl (by simp) fun F G a w hs => ?_
  have hsz := Nat.eq_of_beq_eq_true hsz
  have hxo := o7 hs tt tD x
  rw [hx] at hxo
  obtain ⟨ad, ex, c1, c3⟩ := (hxo.toS rfl).xslv
  unfold eti at he
  split at he
  · rename_i eT s1 b1 z1 hT
    have hu := (ht _ _ hT).und
    have hE := ht _ _ he
    obtain ⟨zv, hzr, i5⟩ := hE.rzero w
    obtain ⟨y1, y2⟩ := afb i5
    have hzl : e.zero.length = sz := hE.zl.trans hsz
    have hcs : zv.cells.size = sz := by rw [← hzl, ← y1]; simp
    have hzc : (Builtin.zeroCells zv.cells len).toList = (List.range (len * sz)).map fun j => zv.cells.toList.getD (j % sz) default := by
      simp only [Builtin.zeroCells, hcs]
      rw [Array.toList_map, Array.toList_range]
      refine List.map_congr_left fun j hj => ?_
      rw [getElem!_def]
      simp only [List.getD_eq_getElem?_getD, Array.getElem?_toList]
      cases zv.cells[j % sz]? <;> rfl
    have fin : ∀ w', (execOp a.eval ⟨none, .call ⟨.builtin .clear, #[x], #[tD]⟩, ty, pos, after, none⟩).run P w = .ok (.value (.tuple #[])) w' → Sim n m F G env (σ.set i (.cells (putAt cs off (ac4 e.zero len sz)))) a w' → Evol m F G w G w' → ∃ v w' G' env' σ', ((execOp a.eval ⟨none, .call ⟨.builtin .clear, #[x], #[tD]⟩, ty, pos, after, none⟩).run P w = .ok (.value v) w' ∨ ((execOp a.eval ⟨none, .call ⟨.builtin .clear, #[x], #[tD]⟩, ty, pos, after, none⟩).run P w = .ok .skip w' ∧ v = undef)) ∧
      Sim n m F G' env' σ' (a.put none v) w' ∧ Evol m F G w G' w' ∧ SatOps P l n m all rest env' σ' Q := fun w' hrun hsim hev =>
      ⟨_, w', G, _, _, .inl hrun, hsim, hev, h⟩
    by_cases h0 : len = 0
    · subst h0
      have hσ : σ.set i (.cells (putAt cs off (ac4 e.zero 0 sz))) = σ := by
        rw [show ac4 e.zero 0 sz = [] by simp [ac4], aes]; exact ai5 hi
      refine fin w ?_ (by rw [hσ]; exact hs) (.refl _ _ _ _)
      cases ad <;> simp [execOp, resolve, invoke, builtin, Builtin.clear_, underlying, hu, ex]
    · obtain ⟨c3, _⟩ := c3.resolve_left (by omega)
      subst c3
      have hrep : ∀ (j : Nat) v c, ((List.range (len * sz)).map fun j => zv.cells.toList.getD (j % sz) default)[j]? = some v → (ac4 e.zero len sz)[j]? = some c → RepP G.K w v c ∧ c ∈ e.zero := by
        intro j v c hv hc
        have hj : j < len * sz := by have := (List.getElem?_eq_some_iff.1 hc).1; rw [ac1] at this; exact this
        have hs0 : 0 < sz := by rcases Nat.eq_zero_or_pos sz with e | e; · (rw [e, Nat.mul_zero] at hj; omega)
                                · exact e
        have hm := Nat.mod_lt j hs0
        simp only [ac4, List.getElem?_map, List.getElem?_range hj, Option.map_some, Option.some.injEq] at hc hv
        have hcz : e.zero[j % sz]? = some c := by
          rw [← hc, List.getD_eq_getElem?_getD, List.getElem?_eq_getElem (by omega)]; rfl
        have hvz : zv.cells.toList[j % sz]? = some v := by
          rw [← hv, List.getD_eq_getElem?_getD, List.getElem?_eq_getElem (by rw [Array.length_toList]; omega)]; rfl
        have hmem := List.mem_of_getElem? hcz
        refine ⟨(akk (G := G) (w := w) (y2 _ _ _ hvz hcz)).2.2.resolve_left (fun e' => ?_), hmem⟩
        have := List.all_eq_true.1 hS c hmem
        rw [e'] at this; cases this
      have hvl : ((List.range (len * sz)).map fun j => zv.cells.toList.getD (j % sz) default).length = len * sz := by rw [List.length_map, List.length_range]
      generalize ((List.range (len * sz)).map fun j => zv.cells.toList.getD (j % sz) default) = vs at hzc hrep hvl
      obtain ⟨w1, w2, w3⟩ := hs.boxWrite (P := P) hi off vs (ac4 e.zero len sz) (by rw [ac1, hvl]) (fun j v c hv hc => .pl (hrep j v c hv hc).1) (by
          rw [mo]; intro q hq
          obtain ⟨j, hj, rfl⟩ := List.getElem_of_mem hq
          have hj2 : j < vs.length := by rw [hvl]; rw [ac1] at hj; exact hj
          exact (hrep j _ _ (List.getElem?_eq_getElem hj2) (List.getElem?_eq_getElem hj)).1.lt _) (by
          rw [List.all_eq_true]; intro q hq
          obtain ⟨j, hj, rfl⟩ := List.getElem_of_mem hq
          have hj2 : j < vs.length := by rw [hvl]; rw [ac1] at hj; exact hj
          exact List.all_eq_true.1 h1 _ (hrep j _ _ (List.getElem?_eq_getElem hj2) (List.getElem?_eq_getElem hj)).2) (by rw [ac1]; exact hle)
      refine fin _ ?_ w2 w3
      cases len with
      | zero => exact absurd rfl h0
      | succ len => simp [execOp, resolve, invoke, builtin, Builtin.clear_, underlying, hu, ex, hzr, hzc, w1]
  · cases he

variable {A : List Nat} {keys : List (List Nat)} {js : List Nat} {σs : Nat → Sto} {sk : Nat → Bool} {i : Nat} {o : Oper} {os : List Oper} {ws : Ws} {wss : List Ws}
theorem akb : acg P l n m all A keys js σs sk i env [] [] := trivial
theorem yh (hk : ws.map (·.1) = keys.getD i []) (hT : zt js i = none) (h : ∀ a, a ≤ js.length → agc A js i a = true → StepO P l n m all env (σs a) (σs a) o ws) (hr : acg P l n m all A keys js σs sk (i + 1) (ws ++ env) os wss) : acg P l n m all A keys js σs sk i env (o :: os) (ws :: wss) :=
  ⟨⟨hk, fun _ => by rw [hT]; exact fun a h1 h2 => (h a h1 h2).g⟩, hr⟩
theorem aou {b : Nat} (hk : ws.map (·.1) = keys.getD i []) (hT : zt js i = some b) (h : StepO P l n m all env (σs b) (σs (b + 1)) o ws) (hr : acg P l n m all A keys js σs sk (i + 1) (ws ++ env) os wss) : acg P l n m all A keys js σs sk i env (o :: os) (ws :: wss) :=
  ⟨⟨hk, fun _ => by rw [hT]; exact h.g⟩, hr⟩
theorem afa (hk : ws.map (·.1) = keys.getD i []) (hs : sk i = true) (hr : acg P l n m all A keys js σs sk (i + 1) (ws ++ env) os wss) : acg P l n m all A keys js σs sk i env (o :: os) (ws :: wss) :=
  ⟨⟨hk, fun h => by rw [hs] at h; cases h⟩, hr⟩

theorem ahs {α : Type} {id k j j2 : Nat} {τ ex : Sto} {wss0 : List Ws} {wss : α → List Ws} {R : α → Prop} {wsj : α → Ws} {bx : α → Ent} {ops : List Oper} {oj : Oper}
    (hm : P.follows .mixedOrders = true) (hok : okG ops k keys [j, j2] = true) (ht : xu ops k = true) (hjk : Nat.ble (j + 1) k = true) (hoj : ops[j]? = some oj)
    (h0 : acg P l n m ops.toArray (zm ops) keys [j, j2] (fun _ => τ ++ ex) (skR (zm ops) j) 0 env (ops.take k) wss0)
    (hstep : StepR P l n m ops.toArray (acf env (wss0.take j)) (τ ++ ex) R (fun c => τ ++ (ex ++ [bx c])) oj wsj)
    (hc : ∀ c, R c → acg P l n m ops.toArray (zm ops) keys [j, j2] (abj [τ ++ ex, τ ++ (ex ++ [bx c]), τ ++ (ex ++ [.gone])]) (fun i => Nat.beq i j) 0 env (ops.take k) (wss c) ∧ (wss c)[j]? = some (wsj c) ∧ (∀ i, i < k → skR (zm ops) j i = false → wss0[i]? = (wss c)[i]?) ∧
      SatOps P l n m ops.toArray (ops.drop k) (acf env (wss c)) (τ ++ (ex ++ [.gone])) Q) : Sat P l n m (.region id ops.toArray true) env (τ ++ ex) Q :=
  an4 (σs := fun c => abj [τ ++ ex, τ ++ (ex ++ [bx c]), τ ++ (ex ++ [.gone])]) hm hok ht hjk hoj h0 hstep hc
end
end Go.Proofs.Ytbpjaiemlkcccaa.Pv
