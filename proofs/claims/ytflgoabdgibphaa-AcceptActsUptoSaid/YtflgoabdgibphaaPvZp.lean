/- Regions that draw their order, one of the steps turning the store (it takes what a cell owns). -/
import Derived.Test.YtflgoabdgibphaaPvZo
namespace Go.Proofs.Ytflgoabdgibphaa.Pv
open Go
set_option linter.unusedVariables false
set_option linter.unusedSimpArgs false

section
variable {P : Program} {l : Option Nat} {n m : Nat} {σ0 σ1 : Sto} {Q : Post}

/-- A step that turns the store. -/
structure StepL (P : Program) (l : Option Nat) (n m : Nat) (all : Array Oper) (env : Env) (σ0 σ1 : Sto) (o : Oper) (p : PV) : Prop where
  go : ∀ (env0 : Env), (∀ t ∈ readsOf all o, look env0 t = look env t) → ∀ F G a w, Sim n m F G env0 σ0 a w → ∀ (i : Nat) (K : Act → World → Prop) (Q' : Exit → Act → World → Prop), all[i]? = some o →
    (∀ a' w' G', Sim n m F G' ((o.dst.getD 1000000, p) :: env0) σ1 a' w' → Evol m F G w G' w' → K a' w') → wpOpIn (Wd l) 0 P all Q' i K a w

/-- Is one ahead of the j-th in whatever order, or behind it? -/
def befJ (all : Array Oper) (j i : Nat) : Bool := match all[j]? with
  | some o => bindsOn o i
  | none => false
def aftJ (all : Array Oper) (j i : Nat) : Bool := match all[i]? with
  | some o => bindsOn o j
  | none => false

/-- The steps: the one at j (counted from i on) turns the store, the others leave it as it is, ahead of that and behind it. -/
def DrawL (P : Program) (l : Option Nat) (n m : Nat) (all : Array Oper) (j : Nat) (σ0 σ1 : Sto) : Nat → Env → List Oper → List PV → Prop
  | _, _, [], [] => True
  | i, env, o :: os, p :: ps => (if i = j then StepL P l n m all env σ0 σ1 o p else (aftJ all j i = false → StepC P l n m all env σ0 o p) ∧ (befJ all j i = false → StepC P l n m all env σ1 o p)) ∧ DrawL P l n m all j σ0 σ1 (i + 1) ((o.dst.getD 1000000, p) :: env) os ps
  | _, _, _, _ => False

theorem drawL_get {all : Array Oper} {j : Nat} : ∀ (ops : List Oper) (ps : List PV) (b : Nat) (env : Env), DrawL P l n m all j σ0 σ1 b env ops ps → ps.length = ops.length ∧ ∀ (i : Nat) o, ops[i]? = some o → ∃ p, ps[i]? = some p ∧
    (if b + i = j then StepL P l n m all (drawEnv env (ops.take i) (ps.take i)) σ0 σ1 o p else (aftJ all j (b + i) = false → StepC P l n m all (drawEnv env (ops.take i) (ps.take i)) σ0 o p) ∧ (befJ all j (b + i) = false → StepC P l n m all (drawEnv env (ops.take i) (ps.take i)) σ1 o p))
  | [], [], _, _, _ => ⟨rfl, fun i o h => by simp at h⟩
  | o :: os, p :: ps, b, env, h => by
    obtain ⟨h1, h2⟩ := h
    obtain ⟨k1, k2⟩ := drawL_get os ps (b + 1) _ h2
    refine ⟨by simp [k1], fun i o' hi => ?_⟩
    cases i with
    | zero => simp at hi; subst hi; exact ⟨p, rfl, h1⟩
    | succ i =>
      simp at hi
      obtain ⟨p', e1, e2⟩ := k2 i o' hi
      rw [show b + 1 + i = b + (i + 1) by omega] at e2
      exact ⟨p', by simpa using e1, by simpa only [List.take_succ_cons, drawEnv] using e2⟩
  | [], _ :: _, _, _, h => h.elim
  | _ :: _, [], _, _, h => h.elim

/-- The steps, whichever way their order is drawn; then the tail. -/
theorem any_stepL {ops : List Oper} {k j : Nat} {ps : List PV} {env : Env} (hok : drawOK2 ops k = true) (ht : tailOK ops k = true) (hjk : j < k) (hst : DrawL P l n m ops.toArray j σ0 σ1 0 env (ops.take k) ps) {Q' : Exit → Act → World → Prop} {F : Nat → Prop} {G : Gh} {w : World}
    (hQ : ∀ a w' G', Sim n m F G' (drawEnv env (ops.take k) ps) σ1 a w' → Evol m F G w G' w' → wpListIn (Wd l) 0 P ops.toArray Q' (ops.drop k) a w') : ∀ (fuel : Nat) (listed : Array Bool) (a : Act) (w' : World) (G' : Gh) (env' : Env), listed.size = ops.length → ((List.range ops.length).filter fun i => !listed.getD i true).length ≤ fuel →
      Sim n m F G' env' (bif listed.getD j true then σ1 else σ0) a w' → Evol m F G w G' w' → (∀ i, i < ops.length → listed.getD i true = true → i < k) → (∀ i (o : Oper), ops[i]? = some o → listed.getD i true = true → look env' (o.dst.getD 1000000) = (ps[i]?).getD .dead) →
      (∀ t, (∀ i (o : Oper), ops[i]? = some o → listed.getD i true = true → o.dst.getD 1000000 ≠ t) → look env' t = look env t) → Closed ops listed → wpAnyIn (Wd l) 0 P .any ops.toArray Q' fuel listed a w' := by
  obtain ⟨hpl, hget⟩ := drawL_get (ops.take k) ps 0 env hst
  have hkl : k ≤ ops.length := by simp only [tailOK, Bool.and_eq_true] at ht; exact Nat.le_of_ble_eq_true ht.1
  have htk : ∀ {i : Nat} {o : Oper}, i < k → ops[i]? = some o → (ops.take k)[i]? = some o := fun {i o} hi ho => by rw [List.getElem?_take, if_pos hi]; exact ho
  have htk' : ∀ {i : Nat} {o : Oper}, (ops.take k)[i]? = some o → i < k ∧ ops[i]? = some o := fun {i o} h => by
    rw [List.getElem?_take] at h
    split at h
    · exact ⟨by assumption, h⟩
    · cases h
  have fin : ∀ (fuel : Nat) (listed : Array Bool) (a : Act) (w' : World) (G' : Gh) (env' : Env), listed.size = ops.length → ((List.range ops.length).filter fun i => !listed.getD i true).length ≤ fuel → (∀ i, i < k → listed.getD i true = true) → (∀ i, i < ops.length → listed.getD i true = true → i < k) → Sim n m F G' env' (bif listed.getD j true then σ1 else σ0) a w' → Evol m F G w G' w' →
      (∀ i (o : Oper), ops[i]? = some o → listed.getD i true = true → look env' (o.dst.getD 1000000) = (ps[i]?).getD .dead) →
      (∀ t, (∀ i (o : Oper), ops[i]? = some o → listed.getD i true = true → o.dst.getD 1000000 ≠ t) → look env' t = look env t) → Closed ops listed → wpAnyIn (Wd l) 0 P .any ops.toArray Q' fuel listed a w' := by
    intro fuel listed a w' G' env' hsz hfu hall hsub hs hv h1 h2 hc
    rw [hall j hjk] at hs
    simp only [cond_true] at hs
    refine any_tail ht fuel k listed a w' (Nat.le_refl _) hkl ?_ hsz hc (fun j hj => ⟨hsub j hj, hall j⟩) (hQ a w' G' (hs.weaken fun t => .inr (.inl ?_)) hv)
    · have hsub2 : ((List.range ops.length).filter fun i => Nat.ble k i).length ≤ ((List.range ops.length).filter fun i => !listed.getD i true).length := by
        have e : ((List.range ops.length).filter fun i => Nat.ble k i) = ((List.range ops.length).filter fun i => !listed.getD i true).filter fun i => Nat.ble k i := by
          rw [List.filter_filter]
          refine List.filter_congr fun x hx => ?_
          have hx := List.mem_range.1 hx
          cases hb : Nat.ble k x with
          | false => simp
          | true =>
            have := Nat.le_of_ble_eq_true hb
            have : listed.getD x true = false := by
              cases hh : listed.getD x true with
              | false => rfl
              | true => have := hsub x hx hh; omega
            simp [this]
        rw [e]; exact List.length_filter_le _ _
      have hcount : ∀ n, k ≤ n → ((List.range n).filter fun i => Nat.ble k i).length = n - k := by
        intro n
        induction n with
        | zero => intro _; simp
        | succ n ih =>
          intro hn
          rw [List.range_succ, List.filter_append, List.length_append]
          by_cases e : k ≤ n
          · have hb : Nat.ble k n = true := by simp only [Nat.ble_eq]; exact e
            rw [ih e, List.filter_cons_of_pos hb]; simp; omega
          · have hk : k = n + 1 := by omega
            have hz : ((List.range n).filter fun i => Nat.ble k i) = [] := by
              rw [List.filter_eq_nil_iff]; intro x hx hb; have := List.mem_range.1 hx; have := Nat.le_of_ble_eq_true hb; omega
            have hz2 : ([n].filter fun i => Nat.ble k i) = [] := by
              rw [List.filter_eq_nil_iff]; intro x hx hb; have := List.mem_singleton.1 hx; have := Nat.le_of_ble_eq_true hb; omega
            rw [hz, hz2]; simp; omega
      have := hcount ops.length hkl
      omega
    · obtain ⟨k1, k2⟩ := look_drawEnv (ops.take k) ps env t hpl
      by_cases hex : ∃ (i : Nat) (o : Oper), (ops.take k)[i]? = some o ∧ o.dst.getD 1000000 = t
      · obtain ⟨i, o, hi, ht'⟩ := hex
        obtain ⟨hik, hio⟩ := htk' hi
        have hf := drawOK2_facts hok hik hio
        rw [k2 i o hi ht' fun j o' hj e => (hf.one j o' (htk' hj).1 (htk' hj).2 (ht'.trans e.symm)).symm, ← ht']
        exact (h1 i o hio (hall i hik)).symm
      · rw [k1 fun i o hi e => hex ⟨i, o, hi, e⟩]
        exact (h2 t fun i o hi hl e => hex ⟨i, o, htk (hsub i (List.getElem?_eq_some_iff.1 hi).1 hl) hi, e⟩).symm
  intro fuel
  induction fuel with
  | zero =>
    intro listed a w' G' env' hsz hfu hs hv h0 h1 h2 hc
    refine fin 0 listed a w' G' env' hsz hfu (fun i hi => ?_) h0 hs hv h1 h2 hc
    cases hl : listed.getD i true with
    | true => rfl
    | false =>
      have : i ∈ (List.range ops.length).filter fun i => !listed.getD i true := List.mem_filter.2 ⟨List.mem_range.2 (by omega), by simp [hl]⟩
      rw [List.length_eq_zero_iff.1 (Nat.le_zero.1 hfu)] at this; cases this
  | succ fuel ih =>
    intro listed a w' G' env' hsz hfu hs hv h0 h1 h2 hc
    by_cases hall : ∀ i, i < k → listed.getD i true = true
    · exact fin (fuel + 1) listed a w' G' env' hsz hfu hall h0 hs hv h1 h2 hc
    · have hready : ∃ i, i ∈ Region.ready .any ops.toArray listed := by
        have : ∃ i, i < k ∧ listed.getD i true = false := by
          refine Classical.byContradiction fun hn => hall fun i hi => ?_
          cases hb : listed.getD i true with
          | true => rfl
          | false => exact absurd ⟨i, hi, hb⟩ hn
        obtain ⟨i, ⟨hik, hif⟩, hmin⟩ := least_ex this
        have hio : ops[i]? = some ops[i] := by simp
        have hf := drawOK2_facts hok hik hio
        refine ⟨i, mem_ready.2 ⟨_, hio, hif, fun e he hb => ?_⟩⟩
        have hon := hf.back e he hb
        rw [getD_eq hsz (by omega)]
        cases hb' : listed.getD e.on true with
        | true => rfl
        | false => have := hmin e.on ⟨by omega, hb'⟩; omega
      refine ⟨fun hr => (by obtain ⟨i, hi⟩ := hready; rw [hr] at hi; cases hi), fun i hi => ?_⟩
      obtain ⟨o, ho, hl, hrdy⟩ := mem_ready.1 hi
      have hil := (List.getElem?_eq_some_iff.1 ho).1
      have hik : i < k := by
        rcases Nat.lt_or_ge i k with h | h
        · exact h
        · exfalso
          refine hall fun j hj => ?_
          have hT := ht
          simp only [tailOK, Bool.and_eq_true] at hT
          have := all_range hT.2 hil
          simp only [Bool.or_eq_true, Bool.and_eq_true, ho] at this
          rcases this with h' | ⟨c1, c2⟩
          · have := Nat.le_of_ble_eq_true h'; omega
          · exact covers_listed hc hsz 30 i j o ho (all_range c1 (by omega)) fun e he hb => by
              have h1 := hrdy e he hb
              have := ble_of (List.all_eq_true.1 c2 e he) hb
              rw [getD_eq hsz (by omega)] at h1; exact h1
      obtain ⟨p, e3, e4⟩ := hget i o (htk hik ho)
      have hf := drawOK2_facts hok hik ho
      have hrdy' : ∀ e ∈ o.after.toList, Region.binds .any e = true → listed.getD e.on true = true := fun e he hb => by
        have h1 := hrdy e he hb
        rw [getD_eq hsz (by have := hf.back e he hb; omega)] at h1; exact h1
      have htt : (ops.take k).take i = ops.take i := by rw [List.take_take, Nat.min_eq_left (by omega)]
      have hsame : ∀ t ∈ readsOf ops.toArray o, look env' t = look (drawEnv env ((ops.take k).take i) (ps.take i)) t := by
        intro t ht'
        rw [htt]
        have hpl2 : ps.length = k := by rw [hpl, List.length_take]; omega
        obtain ⟨k1, k2⟩ := look_drawEnv (ops.take i) (ps.take i) env t (by simp [hpl2]; omega)
        have htk2 : ∀ j o', (ops.take i)[j]? = some o' → j < i ∧ ops[j]? = some o' := fun j o' hj => by
          rw [List.getElem?_take] at hj
          split at hj
          · exact ⟨by assumption, hj⟩
          · cases hj
        by_cases hex : ∃ (j : Nat) (o' : Oper), j < k ∧ ops[j]? = some o' ∧ o'.dst.getD 1000000 = t
        · obtain ⟨j, o', hjk, hj, hjt⟩ := hex
          have hfj := drawOK2_facts hok hjk hj
          rcases hf.reads t ht' j o' hjk hj hjt with ⟨hlt, hb⟩ | ⟨hlt, hb⟩
          · obtain ⟨e, he, hbi, hon⟩ := binds_mem hb
            have hlj := hrdy' e he hbi
            rw [hon] at hlj
            rw [k2 j o' (by rw [List.getElem?_take, if_pos hlt]; exact hj) hjt fun j' o'' hj' e' => (hfj.one j' o'' (by have := (htk2 j' o'' hj').1; omega) (htk2 j' o'' hj').2 (hjt.trans e'.symm)).symm, ← hjt, h1 j o' hj hlj, List.getElem?_take, if_pos hlt]
          · obtain ⟨e, he, hbi, hon⟩ := binds_mem hb
            have hlj : listed.getD j true = false := by
              cases hlj : listed.getD j true with
              | false => rfl
              | true => have := hc j o' hj hlj e he hbi; rw [hon, hl] at this; cases this
            rw [k1 fun j' o'' hj' e' => by
              have h4 := htk2 j' o'' hj'
              have := hfj.one j' o'' (by omega) h4.2 (hjt.trans e'.symm)
              omega]
            exact h2 t fun j' o'' hj' hl' e' => by
              have hj'k := h0 j' (List.getElem?_eq_some_iff.1 hj').1 hl'
              have := hfj.one j' o'' hj'k hj' (hjt.trans e'.symm)
              subst this
              rw [hlj] at hl'; cases hl'
        · rw [k1 fun j o' hj e => hex ⟨j, o', by have := (htk2 j o' hj).1; omega, (htk2 j o' hj).2, e⟩]
          exact h2 t fun j o' hj hl' e => hex ⟨j, o', h0 j (List.getElem?_eq_some_iff.1 hj).1 hl', hj, e⟩
      have hnext : ∀ a2 w2 G2, Sim n m F G2 ((o.dst.getD 1000000, p) :: env') (bif (listed.setIfInBounds i true).getD j true then σ1 else σ0) a2 w2 → Evol m F G' w' G2 w2 → wpAnyIn (Wd l) 0 P .any ops.toArray Q' fuel (listed.setIfInBounds i true) a2 w2 := fun a2 w2 G2 hs2 hv2 => by
        refine ih (listed.setIfInBounds i true) a2 w2 G2 _ (by simpa using hsz) ?_ hs2 (hv.trans hv2) (fun j hj hl' => ?_) (fun j o' hj hl' => ?_) (fun t ht' => ?_) (hc.set (by omega) ho hrdy')
        · have hsub : ((List.range ops.length).filter fun j => !(listed.setIfInBounds i true).getD j true) = (((List.range ops.length).filter fun j => !listed.getD j true).filter fun j => !(listed.setIfInBounds i true).getD j true) := by
            rw [List.filter_filter]
            congr 1
            funext j
            rw [setD (by omega)]
            by_cases e : j = i
            · simp [e]
            · simp [e]
          rw [hsub]
          have := List.length_filter_lt_length_iff_exists (p := fun j => !(listed.setIfInBounds i true).getD j true) (l := (List.range ops.length).filter fun j => !listed.getD j true)
          have h5 := this.2 ⟨i, List.mem_filter.2 ⟨List.mem_range.2 hil, by simp [hl]⟩, by rw [setD (by omega)]; simp⟩
          omega
        · rw [setD (by omega)] at hl'
          split at hl'
          · omega
          · exact h0 j hj hl'
        · rw [look_cons]
          by_cases e : j = i
          · subst e; rw [ho] at hj; cases hj; rw [if_pos rfl, e3]; rfl
          · rw [setD (by omega), if_neg e] at hl'
            have hjk := h0 j (List.getElem?_eq_some_iff.1 hj).1 hl'
            rw [if_neg fun e' => e ((hf.one j o' hjk hj e'.symm).symm)]
            exact h1 j o' hj hl'
        · rw [look_cons, if_neg fun e => ht' i o ho (by rw [setD (by omega), if_pos rfl]) e.symm]
          exact h2 t fun j o' hj hl' => ht' j o' hj (by rw [setD (by omega)]; split <;> first | rfl | exact hl')
      rw [Nat.zero_add] at e4
      by_cases hij : i = j
      · rw [if_pos hij] at e4
        have hl' : listed.getD j true = false := by rw [← hij]; exact hl
        rw [hl'] at hs
        refine e4.go env' hsame F G' a w' hs i _ Q' (by simpa using ho) fun a2 w2 G2 hs2 hv2 => hnext a2 w2 G2 ?_ hv2
        rw [setD (by omega), if_pos hij.symm]
        exact hs2
      · rw [if_neg hij] at e4
        have hsj : (listed.setIfInBounds i true).getD j true = listed.getD j true := by rw [setD (by omega), if_neg (Ne.symm hij)]
        rw [hsj] at hnext
        cases hb : listed.getD j true with
        | true =>
          rw [hb] at hs hnext
          have hbf : befJ ops.toArray j i = false := by
            cases hB : befJ ops.toArray j i with
            | false => rfl
            | true =>
              unfold befJ at hB
              split at hB
              · rename_i oj hoj
                obtain ⟨e, he, hbi, hon⟩ := binds_mem hB
                have := hc j oj (by simpa using hoj) hb e he hbi
                rw [hon, hl] at this; cases this
              · cases hB
          exact (e4.2 hbf).go env' hsame F G' a w' hs i _ Q' (by simpa using ho) fun a2 w2 G2 hs2 hv2 => hnext a2 w2 G2 hs2 hv2
        | false =>
          rw [hb] at hs hnext
          have haf : aftJ ops.toArray j i = false := by
            cases hA : aftJ ops.toArray j i with
            | false => rfl
            | true =>
              have hoi : ops.toArray[i]? = some o := by simpa using ho
              simp only [aftJ, hoi] at hA
              obtain ⟨e, he, hbi, hon⟩ := binds_mem hA
              have := hrdy' e he hbi
              rw [hon, hb] at this; cases this
          exact (e4.1 haf).go env' hsame F G' a w' hs i _ Q' (by simpa using ho) fun a2 w2 G2 hs2 hv2 => hnext a2 w2 G2 hs2 hv2

/-- The walk through such a region, in the text's order: K what comes behind. -/
structure DrawE (P : Program) (l : Option Nat) (n m : Nat) (all : Array Oper) (j : Nat) (σ0 σ1 : Sto) (i : Nat) (env : Env) (ops : List Oper) (K : Env → Prop) : Prop where
  go : ∃ ps, DrawL P l n m all j σ0 σ1 i env ops ps ∧ K (drawEnv env ops ps)

theorem sat_drawL {id k j : Nat} {ops : List Oper} {env : Env} (hm : P.follows .mixedOrders = true) (hok : drawOK2 ops k = true) (ht : tailOK ops k = true) (hjk : Nat.ble (j + 1) k = true)
    (h : DrawE P l n m ops.toArray j σ0 σ1 0 env (ops.take k) fun env' => SatOps P l n m ops.toArray (ops.drop k) env' σ1 Q) : Sat P l n m (.region id ops.toArray true) env σ0 Q := by
  obtain ⟨ps, h1, h2⟩ := h
  have hjk := Nat.le_of_ble_eq_true hjk
  refine ⟨fun F G a w hs => ?_⟩
  refine wpIn_region_any hm ?_
  have hs' := hs.drew
  have hkl : k ≤ ops.length := by simp only [tailOK, Bool.and_eq_true] at ht; exact Nat.le_of_ble_eq_true ht.1
  have hc : ∀ (i : Nat), i < ops.length → (Array.replicate ops.toArray.size false).getD i true = false := fun i hi => by simp [Array.getD_eq_getD_getElem?, hi]
  refine any_stepL hok ht hjk h1 (F := F) (G := G) (w := w) (fun a' w' G' hs2 hv2 => list_evol hv2 _ _ _ (h2.go F G' a' w' hs2)) _ _ a w.drew G env (by simp) (by have := List.length_filter_le (fun i => !(Array.replicate ops.length false).getD i true) (List.range ops.length); simpa only [List.length_range, List.size_toArray] using this) (by rw [hc j (by omega)]; exact hs') (Evol.drew hs) (fun i hi hl => ?_) (fun i o hi hl => ?_) (fun t _ => rfl) (fun i o hi hl => ?_)
  · rw [hc i hi] at hl; cases hl
  · rw [hc i (List.getElem?_eq_some_iff.1 hi).1] at hl; cases hl
  · rw [hc i (List.getElem?_eq_some_iff.1 hi).1] at hl; cases hl

end

section
variable {P : Program} {l : Option Nat} {tt : TT} {n m : Nat} {all : Array Oper} {env : Env} {σ0 σ1 : Sto} {d : Nat} {op : Op} {ty : TypeId} {pos : String} {after : Array Edge} {os : List Oper} {K : Env → Prop} {p : PV} {i j : Nat}

theorem og_de {ops : List Oper} (h : DrawE P l n m all j σ0 σ1 i env ops K) : DrawE P l n m all j σ0 σ1 i env ops K := h
theorem de_nil (h : K env) : DrawE P l n m all j σ0 σ1 i env [] K := ⟨[], trivial, h⟩
/-- A step that leaves the store as it is. -/
theorem de_cons {o : Oper} (hij : Nat.beq i j = false) (h0 : StepC P l n m all env σ0 o p) (h1 : StepC P l n m all env σ1 o p) (h : DrawE P l n m all j σ0 σ1 (i + 1) ((o.dst.getD 1000000, p) :: env) os K) : DrawE P l n m all j σ0 σ1 i env (o :: os) K := by
  obtain ⟨ps, h2, h3⟩ := h
  refine ⟨p :: ps, ⟨?_, h2⟩, h3⟩
  rw [if_neg fun e => by rw [e] at hij; simp at hij]
  exact ⟨fun _ => h0, fun _ => h1⟩
/-- .. one that stands ahead of the j-th, or behind it. -/
theorem de_consB {o : Oper} (hij : Nat.beq i j = false) (hb : befJ all j i = true) (h0 : StepC P l n m all env σ0 o p) (h : DrawE P l n m all j σ0 σ1 (i + 1) ((o.dst.getD 1000000, p) :: env) os K) : DrawE P l n m all j σ0 σ1 i env (o :: os) K := by
  obtain ⟨ps, h2, h3⟩ := h
  refine ⟨p :: ps, ⟨?_, h2⟩, h3⟩
  rw [if_neg fun e => by rw [e] at hij; simp at hij]
  exact ⟨fun _ => h0, fun e => by rw [hb] at e; cases e⟩
theorem de_consA {o : Oper} (hij : Nat.beq i j = false) (ha : aftJ all j i = true) (h1 : StepC P l n m all env σ1 o p) (h : DrawE P l n m all j σ0 σ1 (i + 1) ((o.dst.getD 1000000, p) :: env) os K) : DrawE P l n m all j σ0 σ1 i env (o :: os) K := by
  obtain ⟨ps, h2, h3⟩ := h
  refine ⟨p :: ps, ⟨?_, h2⟩, h3⟩
  rw [if_neg fun e => by rw [e] at hij; simp at hij]
  exact ⟨fun e => (by rw [ha] at e; cases e), fun _ => h1⟩
theorem de_turn {o : Oper} (h0 : StepL P l n m all env σ0 σ1 o p) (h : DrawE P l n m all i σ0 σ1 (i + 1) ((o.dst.getD 1000000, p) :: env) os K) : DrawE P l n m all i σ0 σ1 i env (o :: os) K := by
  obtain ⟨ps, h2, h3⟩ := h
  refine ⟨p :: ps, ⟨?_, h2⟩, h3⟩
  rw [if_pos rfl]
  exact h0

/-- What a cell of a box owns goes over into a slot. -/
theorem stepL_load (ht : TabOK P tt) {t : TypeId} {x : Operand} {b off : Nat} {ti : TI} {cs : List PV} (hx : opv tt env t x = .ptr b off) (hti : tl tt t = some ti) (hnd : aggD ti.desc = false) (hi : σ0[b]? = some (.cells cs)) (hp : cs[off]? = some p) (ho : p.isOwn = true) (hd : Nat.ble (d + 1) n = true)
    (hσ : σ1 = σ0.set b (.cells (cs.set off (left1 p)))) : StepL P l n m all env σ0 σ1 ⟨some d, .load t x, ty, pos, after, none⟩ p := by
  subst hσ
  refine ⟨fun env0 hag F G a w hs q K Q' hq hK => ?_⟩
  have hx0 : opv tt env0 t x = .ptr b off := (opv_agree fun u hu => hag u (by simp only [readsOf, Op.operands, List.append_nil]; simpa using hu)).trans hx
  have hrule := op_loadT (P := P) (l := l) (all := all) (rest := []) (n := n) (m := m) (d := d) (ty := ty) (pos := pos) (after := after) (env := env0) (σ := σ0) (Q := fun e env' σ' => e = .normal ∧ env' = (d, p) :: env0 ∧ σ' = σ0.set b (.cells (cs.set off (left1 p)))) ht hx0 hti hnd hi hp ho (ltn hd) (ops_nil ⟨rfl, rfl, rfl⟩)
  have h1 := hrule.go F G a w hs
  unfold wpOpIn
  simp only [hq]
  rw [if_pos (by simp [Region.wanted])]
  simp only [wpListIn] at h1
  rw [if_pos (by simp [Region.wanted])] at h1
  refine wpIn_both (fun a' w' q => ?_) (fun e a' w' hne q => ?_) h1
  · obtain ⟨G', env', σ', ⟨_, rfl, rfl⟩, hs', hv⟩ := q
    exact hK _ _ _ hs' hv
  · obtain ⟨G', env', σ', ⟨he, _⟩, _⟩ := q
    exact absurd he hne

/-- A store to a box. -/
theorem stepL_store (ht : TabOK P tt) {t : TypeId} {x y : Operand} {b off : Nat} {ti : TI} {cs : List PV} {q : PV} (hx : opv tt env t x = .ptr b off) (hti : tl tt t = some ti) (hi : σ0[b]? = some (.cells cs)) (hy : opv tt env t y = q) (hS : q.isS = true) (hn : Nat.beq q.cells.length ti.size = true) (h1 : q.cells.all PV.one = true) (hoff : Nat.ble (off + ti.size) cs.length = true)
    (hσ : σ1 = σ0.set b (.cells (putAt cs off q.cells))) : StepL P l n m all env σ0 σ1 ⟨none, .store t x y, ty, pos, after, none⟩ .dead := by
  subst hσ
  refine ⟨fun env0 hag F G a w hs r K Q' hr hK => ?_⟩
  have hag1 : ∀ u ∈ Operand.tmp1 x, look env0 u = look env u := fun u hu => hag u (by simp only [readsOf, Op.operands]; simp [hu])
  have hag2 : ∀ u ∈ Operand.tmp1 y, look env0 u = look env u := fun u hu => hag u (by simp only [readsOf, Op.operands]; simp [hu])
  have hrule := op_storeB (P := P) (l := l) (all := all) (rest := []) (n := n) (m := m) (ty := ty) (pos := pos) (after := after) (env := env0) (σ := σ0) (Q := fun e env' σ' => e = .normal ∧ env' = env0 ∧ σ' = σ0.set b (.cells (putAt cs off q.cells))) ht ((opv_agree hag1).trans hx) hti hi ((opv_agree hag2).trans hy) hS (Nat.eq_of_beq_eq_true hn) h1 (Nat.le_of_ble_eq_true hoff) (ops_nil ⟨rfl, rfl, rfl⟩)
  have h1 := hrule.go F G a w hs
  unfold wpOpIn
  simp only [hr]
  rw [if_pos (by simp [Region.wanted])]
  simp only [wpListIn] at h1
  rw [if_pos (by simp [Region.wanted])] at h1
  refine wpIn_both (fun a' w' q => ?_) (fun e a' w' hne q => ?_) h1
  · obtain ⟨G', env', σ', ⟨_, rfl, rfl⟩, hs', hv⟩ := q
    exact hK _ _ _ (hs'.weaken fun t' => by rw [look_cons]; split; exact .inl rfl; exact .inr (.inl rfl)) hv
  · obtain ⟨G', env', σ', ⟨he, _⟩, _⟩ := q
    exact absurd he hne
theorem de_storeX {τ ex0 ex1 : Sto} (ht : TabOK P tt) {t : TypeId} {x y : Operand} {k off : Nat} {ti : TI} {cs : List PV} {q : PV} (hx : opv tt env t x = .ptr (τ.length + k) off) (hti : tl tt t = some ti) (hi : ex0[k]? = some (.cells cs)) (hy : opv tt env t y = q) (hS : q.isS = true) (hn : Nat.beq q.cells.length ti.size = true) (h1 : q.cells.all PV.one = true) (hoff : Nat.ble (off + ti.size) cs.length = true)
    (hσ : ex1 = ex0.set k (.cells (putAt cs off q.cells))) (h : DrawE P l n m all i (τ ++ ex0) (τ ++ ex1) (i + 1) ((1000000, .dead) :: env) os K) : DrawE P l n m all i (τ ++ ex0) (τ ++ ex1) i env (⟨none, .store t x y, ty, pos, after, none⟩ :: os) K :=
  de_turn (stepL_store ht hx hti ((getX k).trans hi) hy hS hn h1 hoff (by rw [setX, hσ])) h

theorem de_lk (hl0 : LookAt P n m (restr env (readsOf all ⟨some d, op, ty, pos, after, none⟩)) σ0 ⟨some d, op, ty, pos, after, none⟩ p)
    (hij : Nat.beq i j = false) (hd : Nat.ble (d + 1) n = true) (hnd : isDefer op = false) (h : DrawE P l n m all j σ0 σ1 (i + 1) ((d, p) :: env) os K) (hl1 : LookAt P n m (restr env (readsOf all ⟨some d, op, ty, pos, after, none⟩)) σ1 ⟨some d, op, ty, pos, after, none⟩ p) : DrawE P l n m all j σ0 σ1 i env (⟨some d, op, ty, pos, after, none⟩ :: os) K :=
  de_cons hij (step_look ⟨d, rfl, ltn hd⟩ (fun c e => by rw [show op = .defer c from e] at hnd; cases hnd) (.free rfl hl0)) (step_look ⟨d, rfl, ltn hd⟩ (fun c e => by rw [show op = .defer c from e] at hnd; cases hnd) (.free rfl hl1)) h
theorem de_lkB (hb : befJ all j i = true) (hl0 : LookAt P n m (restr env (readsOf all ⟨some d, op, ty, pos, after, none⟩)) σ0 ⟨some d, op, ty, pos, after, none⟩ p)
    (hij : Nat.beq i j = false) (hd : Nat.ble (d + 1) n = true) (hnd : isDefer op = false) (h : DrawE P l n m all j σ0 σ1 (i + 1) ((d, p) :: env) os K) : DrawE P l n m all j σ0 σ1 i env (⟨some d, op, ty, pos, after, none⟩ :: os) K :=
  de_consB hij hb (step_look ⟨d, rfl, ltn hd⟩ (fun c e => by rw [show op = .defer c from e] at hnd; cases hnd) (.free rfl hl0)) h
theorem de_lkA (ha : aftJ all j i = true) (hl1 : LookAt P n m (restr env (readsOf all ⟨some d, op, ty, pos, after, none⟩)) σ1 ⟨some d, op, ty, pos, after, none⟩ p)
    (hij : Nat.beq i j = false) (hd : Nat.ble (d + 1) n = true) (hnd : isDefer op = false) (h : DrawE P l n m all j σ0 σ1 (i + 1) ((d, p) :: env) os K) : DrawE P l n m all j σ0 σ1 i env (⟨some d, op, ty, pos, after, none⟩ :: os) K :=
  de_consA hij ha (step_look ⟨d, rfl, ltn hd⟩ (fun c e => by rw [show op = .defer c from e] at hnd; cases hnd) (.free rfl hl1)) h
theorem de_callB {fo : Operand} {args : Array Operand} {ats : Array TypeId} {f : FuncId} {ps : List PV} (hb : befJ all j i = true) (hcal : Callable P f) (hc0 : SatCall P f ps σ0 fun x σ' => x = p ∧ σ' = σ0) (hfo : fo = .func f) (hps : passL tt env args.toList ats.toList = ps) (hlen : Nat.ble args.size ats.size = true)
    (htup : ps.all (fun p => !p.isTup) = true) (hij : Nat.beq i j = false) (hd : Nat.ble (d + 1) n = true) (h : DrawE P l n m all j σ0 σ1 (i + 1) ((d, p) :: env) os K) : DrawE P l n m all j σ0 σ1 i env (⟨some d, .call ⟨.value fo, args, ats⟩, ty, pos, after, none⟩ :: os) K :=
  de_consB hij hb (step_call (tt := tt) hcal hc0 hfo hps hlen htup hd) h
theorem og_lk {σ : Sto} {o : Oper} (h : LookAt P n m env σ o p) : LookAt P n m env σ o p := h
theorem de_build {t : TypeId} {len : Nat} {parts : Array (Nat × Operand)} {e : TI} {es : List PV} (ht : TabOK P tt) (he : eti tt t = some e) (hx : Opvs tt env (parts.toList.map (·.2)) es) (hpl : es.all PV.pl = true)
    (hsz : es.all (fun p => Nat.beq p.cells.length e.size) = true) (hbig : Nat.ble (es.length * e.size) 16777216 = true) (hlen : len = parts.toList.length) (hparts : parts.toList.map (·.1) = List.range' 0 parts.toList.length)
    (hij : Nat.beq i j = false) (hd : Nat.ble (d + 1) n = true) (h : DrawE P l n m all j σ0 σ1 (i + 1) ((d, .sl .sh e.size es) :: env) os K) : DrawE P l n m all j σ0 σ1 i env (⟨some d, .buildSlice t len parts, ty, pos, after, none⟩ :: os) K :=
  de_cons hij (step_build ht he hx hpl hsz hbig hlen hparts hd) (step_build ht he hx hpl hsz hbig hlen hparts hd) h
theorem de_call {fo : Operand} {args : Array Operand} {ats : Array TypeId} {f : FuncId} {ps : List PV} (hcal : Callable P f) (hc0 : SatCall P f ps σ0 fun x σ' => x = p ∧ σ' = σ0) (hc1 : SatCall P f ps σ1 fun x σ' => x = p ∧ σ' = σ1) (hfo : fo = .func f) (hps : passL tt env args.toList ats.toList = ps) (hlen : Nat.ble args.size ats.size = true)
    (htup : ps.all (fun p => !p.isTup) = true) (hij : Nat.beq i j = false) (hd : Nat.ble (d + 1) n = true) (h : DrawE P l n m all j σ0 σ1 (i + 1) ((d, p) :: env) os K) : DrawE P l n m all j σ0 σ1 i env (⟨some d, .call ⟨.value fo, args, ats⟩, ty, pos, after, none⟩ :: os) K :=
  de_cons hij (step_call (tt := tt) hcal hc0 hfo hps hlen htup hd) (step_call (tt := tt) hcal hc1 hfo hps hlen htup hd) h
theorem de_take (ht : TabOK P tt) {t : TypeId} {x : Operand} {b off : Nat} {ti : TI} {cs : List PV} (hx : opv tt env t x = .ptr b off) (hti : tl tt t = some ti) (hnd : aggD ti.desc = false) (hi : σ0[b]? = some (.cells cs)) (hp : cs[off]? = some p) (ho : p.isOwn = true) (hd : Nat.ble (d + 1) n = true)
    (hσ : σ1 = σ0.set b (.cells (cs.set off (left1 p)))) (h : DrawE P l n m all i σ0 σ1 (i + 1) ((d, p) :: env) os K) : DrawE P l n m all i σ0 σ1 i env (⟨some d, .load t x, ty, pos, after, none⟩ :: os) K :=
  de_turn (stepL_load ht hx hti hnd hi hp ho hd hσ) h
theorem de_takeX {τ ex0 ex1 : Sto} (ht : TabOK P tt) {t : TypeId} {x : Operand} {k off : Nat} {ti : TI} {cs : List PV} (hx : opv tt env t x = .ptr (τ.length + k) off) (hti : tl tt t = some ti) (hnd : aggD ti.desc = false) (hi : ex0[k]? = some (.cells cs)) (hp : cs[off]? = some p) (ho : p.isOwn = true) (hd : Nat.ble (d + 1) n = true)
    (hσ : ex1 = ex0.set k (.cells (cs.set off (left1 p)))) (h : DrawE P l n m all i (τ ++ ex0) (τ ++ ex1) (i + 1) ((d, p) :: env) os K) : DrawE P l n m all i (τ ++ ex0) (τ ++ ex1) i env (⟨some d, .load t x, ty, pos, after, none⟩ :: os) K :=
  de_take ht hx hti hnd ((getX k).trans hi) hp ho hd (by rw [setX, hσ]) h
theorem sat_drawLX {τ ex0 ex1 : Sto} {Q : Post} {id k j : Nat} {dj : Option Nat} {ops : List Oper} (hdj : (ops[j]?).map (·.dst) = some dj) (hm : P.follows .mixedOrders = true) (hok : drawOK2 ops k = true) (ht : tailOK ops k = true) (hjk : Nat.ble (j + 1) k = true)
    (h : DrawE P l n m ops.toArray j (τ ++ ex0) (τ ++ ex1) 0 env (ops.take k) fun env' => SatOps P l n m ops.toArray (ops.drop k) env' (τ ++ ex1) Q) : Sat P l n m (.region id ops.toArray true) env (τ ++ ex0) Q := sat_drawL hm hok ht hjk h
end
end Go.Proofs.Ytflgoabdgibphaa.Pv
