/- Regions that draw their order: operations that leave the store as it is (calls among them), then a tail that stands behind all of them. -/
import Derived.Test.YtflgoabdgibphaaPvZe
namespace Go.Proofs.Ytflgoabdgibphaa.Pv
open Go
set_option linter.unusedVariables false
set_option linter.unusedSimpArgs false

/-- Is an operation behind another one, whichever way the order is drawn? -/
def covers (ops : List Oper) : Nat → Nat → Nat → Bool
  | 0, _, _ => false
  | f + 1, i, j => match ops[i]? with
    | none => false
    | some o => (o.after.toList.any fun e => Region.binds .any e && Nat.beq e.on j) || (o.after.toList.any fun e => Region.binds .any e && (Nat.ble (e.on + 1) i && covers ops f e.on j))

/-- From k on each one stands behind all that stand ahead of it. -/
def tailOK (ops : List Oper) (k : Nat) : Bool :=
  Nat.ble k ops.length && ((List.range ops.length).all fun i => Nat.ble (i + 1) k || ((List.range i).all fun j => covers ops 30 i j) && (match ops[i]? with | some o => (o.after.toList.all fun e => !Region.binds .any e || Nat.ble (e.on + 1) i) | none => false))

theorem ble_of {e : Edge} {i : Nat} (h : (!Region.binds .any e || Nat.ble (e.on + 1) i) = true) (hb : Region.binds .any e = true) : e.on < i := by
  rw [hb] at h; exact Nat.le_of_ble_eq_true h

def drawOK2 (ops : List Oper) (k : Nat) : Bool :=
  (List.range k).all fun i => match ops[i]? with
    | none => false
    | some o => !isDefer o.op && (o.after.toList.all fun e => !Region.binds .any e || Nat.ble (e.on + 1) i) &&
        (List.range k).all fun j => match ops[j]? with
          | none => false
          | some o' => (Nat.beq i j || !Nat.beq (o.dst.getD 1000000) (o'.dst.getD 1000000)) && ((readsOf ops.toArray o).all fun t => !Nat.beq (o'.dst.getD 1000000) t || ((Nat.ble (j + 1) i && bindsOn o j) || (Nat.ble (i + 1) j && bindsOn o' i)))

theorem wpIn_both {F : Fence} {n : Nat} {P : Program} {o : Oper} {a : Act} {w : World} {K K' : Act → World → Prop} {Q Q' : Exit → Act → World → Prop} (hK : ∀ a w, K a w → K' a w) (hQ : ∀ e a w, e ≠ .normal → Q e a w → Q' e a w)
    (h : o.wpIn F n P a w K Q) : o.wpIn F n P a w K' Q' := by
  refine ⟨h.1, ?_⟩
  have h := h.2
  generalize (o.semAt F.round a.eval).run P w = rr at h
  cases rr with
  | ok x w' =>
    cases x <;> simp only [Oper.uponIn] at h ⊢ <;>
      first
        | exact hK _ _ h
        | exact hQ _ _ _ (by simp) h
        | exact ⟨h.1, CallsIn.mono h.2 (fun e w'' he => by cases e <;> first | exact hK _ _ he | exact hQ _ _ _ (by simp) he | (obtain ⟨a0, w0, h0⟩ := he; exact ⟨a0, w0, hQ _ _ _ (by simp) h0⟩))⟩
        | exact ⟨h.1, RowsIn.mono h.2 (fun _ _ he => hK _ _ he)⟩
        | exact ⟨h.1, RoundIn.mono h.2 (fun e w'' he => by cases e <;> first | exact hK _ _ he | exact hQ _ _ _ (by simp) he | (obtain ⟨a0, w0, h0⟩ := he; exact ⟨a0, w0, hQ _ _ _ (by simp) h0⟩))⟩
  | halt x w' => cases x <;> simp only [Oper.uponIn] at h ⊢ <;> first | exact h | exact hQ _ _ _ (by simp) h

/-- A step that leaves the store as it is. -/
structure StepC (P : Program) (l : Option Nat) (n m : Nat) (all : Array Oper) (env : Env) (σ : Sto) (o : Oper) (p : PV) : Prop where
  go : ∀ (env0 : Env), (∀ t ∈ readsOf all o, look env0 t = look env t) → ∀ F G a w, Sim n m F G env0 σ a w → ∀ (i : Nat) (K : Act → World → Prop) (Q' : Exit → Act → World → Prop), all[i]? = some o →
    (∀ a' w' G', Sim n m F G' ((o.dst.getD 1000000, p) :: env0) σ a' w' → Evol m F G w G' w' → K a' w') → wpOpIn (Wd l) 0 P all Q' i K a w

def DrawC (P : Program) (l : Option Nat) (n m : Nat) (all : Array Oper) (σ : Sto) : Env → List Oper → List PV → Prop
  | _, [], [] => True
  | env, o :: os, p :: ps => StepC P l n m all env σ o p ∧ DrawC P l n m all σ ((o.dst.getD 1000000, p) :: env) os ps
  | _, _, _ => False

section
variable {P : Program} {l : Option Nat} {n m : Nat} {σ : Sto} {Q : Post}

theorem drawC_get {all : Array Oper} : ∀ (ops : List Oper) (ps : List PV) (env : Env), DrawC P l n m all σ env ops ps → ps.length = ops.length ∧ ∀ (i : Nat) o, ops[i]? = some o → ∃ p, ps[i]? = some p ∧ StepC P l n m all (drawEnv env (ops.take i) (ps.take i)) σ o p
  | [], [], _, _ => ⟨rfl, fun i o h => by simp at h⟩
  | o :: os, p :: ps, env, h => by
    obtain ⟨h1, h2⟩ := h
    obtain ⟨k1, k2⟩ := drawC_get os ps _ h2
    refine ⟨by simp [k1], fun i o' hi => ?_⟩
    cases i with
    | zero => simp at hi; subst hi; exact ⟨p, rfl, h1⟩
    | succ i =>
      simp at hi
      obtain ⟨p', e1, e2⟩ := k2 i o' hi
      exact ⟨p', by simpa using e1, by simpa only [List.take_succ_cons, drawEnv] using e2⟩
  | [], _ :: _, _, h => h.elim
  | _ :: _, [], _, h => h.elim

structure DrawFacts2 (ops : List Oper) (k i : Nat) (o : Oper) : Prop where
  back : ∀ e ∈ o.after.toList, Region.binds .any e = true → e.on < i
  one : ∀ j o', j < k → ops[j]? = some o' → o.dst.getD 1000000 = o'.dst.getD 1000000 → i = j
  reads : ∀ t ∈ readsOf ops.toArray o, ∀ j o', j < k → ops[j]? = some o' → o'.dst.getD 1000000 = t → (j < i ∧ bindsOn o j = true) ∨ (i < j ∧ bindsOn o' i = true)

theorem drawOK2_facts {ops : List Oper} {k : Nat} (h : drawOK2 ops k = true) {i : Nat} {o : Oper} (hik : i < k) (hi : ops[i]? = some o) : DrawFacts2 ops k i o := by
  have h1 := all_range h hik
  simp only [hi, Bool.and_eq_true] at h1
  obtain ⟨⟨h2, h3⟩, h4⟩ := h1
  have h5 : ∀ j o', j < k → ops[j]? = some o' → ((Nat.beq i j || !Nat.beq (o.dst.getD 1000000) (o'.dst.getD 1000000)) && ((readsOf ops.toArray o).all fun t => !Nat.beq (o'.dst.getD 1000000) t || ((Nat.ble (j + 1) i && bindsOn o j) || (Nat.ble (i + 1) j && bindsOn o' i)))) = true := by
    intro j o' hjk hj
    have := all_range h4 hjk
    simpa only [hj] using this
  refine ⟨fun e he hb => ble_of (List.all_eq_true.1 h3 e he) hb, fun j o' hjk hj e => ?_, fun t ht j o' hjk hj e => ?_⟩
  · have e2 := h5 j o' hjk hj
    simp only [Bool.and_eq_true, Bool.or_eq_true] at e2
    rcases e2.1 with e3 | e3
    · exact Nat.eq_of_beq_eq_true e3
    · rw [e] at e3; simp at e3
  · have e2 := h5 j o' hjk hj
    simp only [Bool.and_eq_true] at e2
    have := List.all_eq_true.1 e2.2 t ht
    simp only [e, Bool.or_eq_true, Bool.and_eq_true] at this
    rcases this with h6 | h6 | h6
    · simp at h6
    · exact .inl ⟨Nat.le_of_ble_eq_true h6.1, h6.2⟩
    · exact .inr ⟨Nat.le_of_ble_eq_true h6.1, h6.2⟩

/-- What is carried out has all carried out that it stands behind. -/
def Closed (ops : List Oper) (listed : Array Bool) : Prop :=
  ∀ i o, ops[i]? = some o → listed.getD i true = true → ∀ e ∈ o.after.toList, Region.binds .any e = true → listed.getD e.on true = true

theorem getD_eq {ops : List Oper} {listed : Array Bool} {i : Nat} (h1 : listed.size = ops.length) (h2 : i < ops.length) : listed.getD i false = listed.getD i true := by
  simp [Array.getD_eq_getD_getElem?, h1, h2]

theorem covers_listed {ops : List Oper} {listed : Array Bool} (hc : Closed ops listed) (hsz : listed.size = ops.length) : ∀ (f i j : Nat) (o : Oper), ops[i]? = some o → covers ops f i j = true →
    (∀ e ∈ o.after.toList, Region.binds .any e = true → listed.getD e.on true = true) → listed.getD j true = true := by
  intro f
  induction f with
  | zero => intro i j o _ h; cases h
  | succ f ih =>
    intro i j o hi h hr
    simp only [covers, hi, Bool.or_eq_true, List.any_eq_true, Bool.and_eq_true] at h
    rcases h with ⟨e, h1, h2, h3⟩ | ⟨e, h1, h2, h3, h4⟩
    · rw [← Nat.eq_of_beq_eq_true h3]; exact hr e h1 h2
    · have hon := hr e h1 h2
      cases ho' : ops[e.on]? with
      | none => cases f <;> simp [covers, ho'] at h4
      | some o' => exact ih e.on j o' ho' h4 (hc e.on o' ho' hon)

theorem setD {listed : Array Bool} {i : Nat} (hi : i < listed.size) (j : Nat) : (listed.setIfInBounds i true).getD j true = if j = i then true else listed.getD j true := by
  simp only [Array.getD_eq_getD_getElem?, Array.getElem?_setIfInBounds]
  by_cases e : j = i
  · subst e; simp [hi]
  · simp [e, Ne.symm e]

theorem Closed.set {ops : List Oper} {listed : Array Bool} (hc : Closed ops listed) {i : Nat} {o : Oper} (hsz : i < listed.size) (hi : ops[i]? = some o) (hr : ∀ e ∈ o.after.toList, Region.binds .any e = true → listed.getD e.on true = true) :
    Closed ops (listed.setIfInBounds i true) := by
  intro j oj hj hl e he hb
  rw [setD hsz]
  split
  · rfl
  · by_cases e' : j = i
    · subst e'; rw [hi] at hj; cases hj; exact hr e he hb
    · rw [setD hsz, if_neg e'] at hl; exact hc j oj hj hl e he hb

/-- The tail: in the text's order. -/
theorem any_tail {ops : List Oper} {k : Nat} (ht : tailOK ops k = true) {Q' : Exit → Act → World → Prop} : ∀ (fuel i : Nat) (listed : Array Bool) (a : Act) (w : World), k ≤ i → i ≤ ops.length → ops.length - i ≤ fuel → listed.size = ops.length → Closed ops listed →
    (∀ j, j < ops.length → (listed.getD j true = true ↔ j < i)) → wpListIn (Wd l) 0 P ops.toArray Q' (ops.drop i) a w → wpAnyIn (Wd l) 0 P .any ops.toArray Q' fuel listed a w := by
  have ht := ht
  simp only [tailOK, Bool.and_eq_true] at ht
  obtain ⟨ht1, ht2⟩ := ht
  have hop : ∀ i o, k ≤ i → ops[i]? = some o → (∀ j, j < i → covers ops 30 i j = true) ∧ ∀ e ∈ o.after.toList, Region.binds .any e = true → e.on < i := by
    intro i o hki hi
    have := all_range ht2 (List.getElem?_eq_some_iff.1 hi).1
    simp only [Bool.or_eq_true, Bool.and_eq_true, hi] at this
    rcases this with h | ⟨h1, h2⟩
    · have := Nat.le_of_ble_eq_true h; omega
    · exact ⟨fun j hj => all_range h1 hj, fun e he hb => ble_of (List.all_eq_true.1 h2 e he) hb⟩
  intro fuel
  induction fuel with
  | zero =>
    intro i listed a w hki hil hfu hsz hc hl h
    have hi : i = ops.length := by omega
    subst hi
    refine ⟨?_, by simpa [wpListIn] using h⟩
    cases hrr : Region.ready .any ops.toArray listed with
    | nil => rfl
    | cons j r =>
      have hm : j ∈ Region.ready .any ops.toArray listed := by rw [hrr]; exact List.mem_cons_self
      obtain ⟨o, ho, hlj, _⟩ := mem_ready.1 hm
      have := (hl j (List.getElem?_eq_some_iff.1 ho).1).2 (List.getElem?_eq_some_iff.1 ho).1
      rw [this] at hlj; cases hlj
  | succ fuel ih =>
    intro i listed a w hki hil hfu hsz hc hl h
    have hready : ∀ j, j ∈ Region.ready .any ops.toArray listed → j = i := by
      intro j hr
      obtain ⟨o, hj, hlj, hrdy⟩ := mem_ready.1 hr
      have hjl := (List.getElem?_eq_some_iff.1 hj).1
      have hge : ¬ j < i := fun hlt => by rw [(hl j hjl).2 hlt] at hlj; cases hlj
      rcases Nat.lt_or_ge i j with hlt | hle
      · exfalso
        obtain ⟨c1, c2⟩ := hop j o (by omega) hj
        have := covers_listed hc hsz 30 j i o hj (c1 i hlt) fun e he hb => by
          have h1 := hrdy e he hb
          rw [getD_eq hsz (by have := c2 e he hb; omega)] at h1; exact h1
        exact Nat.lt_irrefl _ ((hl i (by omega)).1 this)
      · omega
    rcases Nat.lt_or_ge i ops.length with hlt | hge
    · have ho : ops[i]? = some ops[i] := by simp [hlt]
      obtain ⟨c1, c2⟩ := hop i _ hki ho
      have hin : i ∈ Region.ready .any ops.toArray listed := mem_ready.2 ⟨_, ho, by
          cases hb : listed.getD i true with
          | false => rfl
          | true => exact absurd ((hl i hlt).1 hb) (Nat.lt_irrefl _), fun e he hb => by
          have := c2 e he hb
          rw [getD_eq hsz (by omega)]; exact (hl e.on (by omega)).2 this⟩
      refine ⟨fun hr => (by rw [hr] at hin; cases hin), fun j hj => ?_⟩
      obtain rfl := hready j hj
      have hd : ops.drop j = ops[j] :: ops.drop (j + 1) := List.drop_eq_getElem_cons hlt
      rw [hd] at h
      have hnext : ∀ a w, wpListIn (Wd l) 0 P ops.toArray Q' (ops.drop (j + 1)) a w → wpAnyIn (Wd l) 0 P .any ops.toArray Q' fuel (listed.setIfInBounds j true) a w := fun a w h' =>
        ih (j + 1) _ a w (by omega) (by omega) (by omega) (by simpa using hsz) (hc.set (by omega) ho fun e he hb => (hl e.on (by have := c2 e he hb; omega)).2 (c2 e he hb)) (fun x hx => by
          rw [setD (by omega)]
          by_cases e : x = j
          · subst e; simp
          · rw [if_neg e]
            constructor
            · intro h1; have := (hl x hx).1 h1; omega
            · intro h1; exact (hl x hx).2 (by omega)) h'
      unfold wpOpIn
      simp only [List.getElem?_toArray, ho]
      simp only [wpListIn] at h
      split
      · rename_i hw; rw [if_pos hw] at h; exact Oper.wpIn_mono hnext h
      · rename_i hw; rw [if_neg hw] at h; exact ⟨h.1, hnext _ _ h.2⟩
    · have hi : i = ops.length := by omega
      have hr : Region.ready .any ops.toArray listed = [] := by
        cases hrr : Region.ready .any ops.toArray listed with
        | nil => rfl
        | cons j r =>
          have hm : j ∈ Region.ready .any ops.toArray listed := by rw [hrr]; exact List.mem_cons_self
          have e := hready j hm
          obtain ⟨o, ho, _⟩ := mem_ready.1 hm
          have := (List.getElem?_eq_some_iff.1 ho).1
          omega
      refine ⟨fun _ => ?_, fun j hj => by rw [hr] at hj; cases hj⟩
      rw [hi, List.drop_length] at h
      exact h

/-- The steps, whichever way their order is drawn; then the tail. -/
theorem any_step {ops : List Oper} {k : Nat} {ps : List PV} {env : Env} (hok : drawOK2 ops k = true) (ht : tailOK ops k = true) (hst : DrawC P l n m ops.toArray σ env (ops.take k) ps) {Q' : Exit → Act → World → Prop} {F : Nat → Prop} {G : Gh} {w : World}
    (hQ : ∀ a w' G', Sim n m F G' (drawEnv env (ops.take k) ps) σ a w' → Evol m F G w G' w' → wpListIn (Wd l) 0 P ops.toArray Q' (ops.drop k) a w') : ∀ (fuel : Nat) (listed : Array Bool) (a : Act) (w' : World) (G' : Gh) (env' : Env), listed.size = ops.length → ((List.range ops.length).filter fun i => !listed.getD i true).length ≤ fuel →
      Sim n m F G' env' σ a w' → Evol m F G w G' w' → (∀ i, i < ops.length → listed.getD i true = true → i < k) → (∀ i (o : Oper), ops[i]? = some o → listed.getD i true = true → look env' (o.dst.getD 1000000) = (ps[i]?).getD .dead) →
      (∀ t, (∀ i (o : Oper), ops[i]? = some o → listed.getD i true = true → o.dst.getD 1000000 ≠ t) → look env' t = look env t) → Closed ops listed → wpAnyIn (Wd l) 0 P .any ops.toArray Q' fuel listed a w' := by
  obtain ⟨hpl, hget⟩ := drawC_get (ops.take k) ps env hst
  have hkl : k ≤ ops.length := by simp only [tailOK, Bool.and_eq_true] at ht; exact Nat.le_of_ble_eq_true ht.1
  have htk : ∀ {i : Nat} {o : Oper}, i < k → ops[i]? = some o → (ops.take k)[i]? = some o := fun {i o} hi ho => by rw [List.getElem?_take, if_pos hi]; exact ho
  have htk' : ∀ {i : Nat} {o : Oper}, (ops.take k)[i]? = some o → i < k ∧ ops[i]? = some o := fun {i o} h => by
    rw [List.getElem?_take] at h
    split at h
    · exact ⟨by assumption, h⟩
    · cases h
  have fin : ∀ (fuel : Nat) (listed : Array Bool) (a : Act) (w' : World) (G' : Gh) (env' : Env), listed.size = ops.length → ((List.range ops.length).filter fun i => !listed.getD i true).length ≤ fuel → (∀ i, i < k → listed.getD i true = true) → (∀ i, i < ops.length → listed.getD i true = true → i < k) → Sim n m F G' env' σ a w' → Evol m F G w G' w' →
      (∀ i (o : Oper), ops[i]? = some o → listed.getD i true = true → look env' (o.dst.getD 1000000) = (ps[i]?).getD .dead) →
      (∀ t, (∀ i (o : Oper), ops[i]? = some o → listed.getD i true = true → o.dst.getD 1000000 ≠ t) → look env' t = look env t) → Closed ops listed → wpAnyIn (Wd l) 0 P .any ops.toArray Q' fuel listed a w' := by
    intro fuel listed a w' G' env' hsz hfu hall hsub hs hv h1 h2 hc
    refine any_tail ht fuel k listed a w' (Nat.le_refl _) hkl ?_ hsz hc (fun j hj => ⟨hsub j hj, hall j⟩) (hQ a w' G' (hs.weaken fun t => .inr (.inl ?_)) hv)
    · have hsub2 : ((List.range ops.length).filter fun i => Nat.ble k i).length ≤ ((List.range ops.length).filter fun i => !listed.getD i true).length := by
        have e : ((List.range ops.length).filter fun i => Nat.ble k i) = ((List.range ops.length).filter fun i => !listed.getD i true).filter fun i => Nat.ble k i := by
          rw [List.filter_filter]
          refine List.filter_congr fun x hx => ?_
          have hx := List.mem_range.1 hx
          cases hb : Nat.ble k x with
          | false => simp
          | true =>
            have := Nat.le_of_ble_eq_true hb
            have : listed.getD x true = false := by
              cases hh : listed.getD x true with
              | false => rfl
              | true => have := hsub x hx hh; omega
            simp [this]
        rw [e]; exact List.length_filter_le _ _
      have hcount : ∀ n, k ≤ n → ((List.range n).filter fun i => Nat.ble k i).length = n - k := by
        intro n
        induction n with
        | zero => intro _; simp
        | succ n ih =>
          intro hn
          rw [List.range_succ, List.filter_append, List.length_append]
          by_cases e : k ≤ n
          · have hb : Nat.ble k n = true := by simp only [Nat.ble_eq]; exact e
            rw [ih e, List.filter_cons_of_pos hb]; simp; omega
          · have hk : k = n + 1 := by omega
            have hz : ((List.range n).filter fun i => Nat.ble k i) = [] := by
              rw [List.filter_eq_nil_iff]; intro x hx hb; have := List.mem_range.1 hx; have := Nat.le_of_ble_eq_true hb; omega
            have hz2 : ([n].filter fun i => Nat.ble k i) = [] := by
              rw [List.filter_eq_nil_iff]; intro x hx hb; have := List.mem_singleton.1 hx; have := Nat.le_of_ble_eq_true hb; omega
            rw [hz, hz2]; simp; omega
      have := hcount ops.length hkl
      omega
    · obtain ⟨k1, k2⟩ := look_drawEnv (ops.take k) ps env t hpl
      by_cases hex : ∃ (i : Nat) (o : Oper), (ops.take k)[i]? = some o ∧ o.dst.getD 1000000 = t
      · obtain ⟨i, o, hi, ht'⟩ := hex
        obtain ⟨hik, hio⟩ := htk' hi
        have hf := drawOK2_facts hok hik hio
        rw [k2 i o hi ht' fun j o' hj e => (hf.one j o' (htk' hj).1 (htk' hj).2 (ht'.trans e.symm)).symm, ← ht']
        exact (h1 i o hio (hall i hik)).symm
      · rw [k1 fun i o hi e => hex ⟨i, o, hi, e⟩]
        exact (h2 t fun i o hi hl e => hex ⟨i, o, htk (hsub i (List.getElem?_eq_some_iff.1 hi).1 hl) hi, e⟩).symm
  intro fuel
  induction fuel with
  | zero =>
    intro listed a w' G' env' hsz hfu hs hv h0 h1 h2 hc
    refine fin 0 listed a w' G' env' hsz hfu (fun i hi => ?_) h0 hs hv h1 h2 hc
    cases hl : listed.getD i true with
    | true => rfl
    | false =>
      have : i ∈ (List.range ops.length).filter fun i => !listed.getD i true := List.mem_filter.2 ⟨List.mem_range.2 (by omega), by simp [hl]⟩
      rw [List.length_eq_zero_iff.1 (Nat.le_zero.1 hfu)] at this; cases this
  | succ fuel ih =>
    intro listed a w' G' env' hsz hfu hs hv h0 h1 h2 hc
    by_cases hall : ∀ i, i < k → listed.getD i true = true
    · exact fin (fuel + 1) listed a w' G' env' hsz hfu hall h0 hs hv h1 h2 hc
    · have hready : ∃ i, i ∈ Region.ready .any ops.toArray listed := by
        have : ∃ i, i < k ∧ listed.getD i true = false := by
          refine Classical.byContradiction fun hn => hall fun i hi => ?_
          cases hb : listed.getD i true with
          | true => rfl
          | false => exact absurd ⟨i, hi, hb⟩ hn
        obtain ⟨i, ⟨hik, hif⟩, hmin⟩ := least_ex this
        have hio : ops[i]? = some ops[i] := by simp
        have hf := drawOK2_facts hok hik hio
        refine ⟨i, mem_ready.2 ⟨_, hio, hif, fun e he hb => ?_⟩⟩
        have hon := hf.back e he hb
        rw [getD_eq hsz (by omega)]
        cases hb' : listed.getD e.on true with
        | true => rfl
        | false => have := hmin e.on ⟨by omega, hb'⟩; omega
      refine ⟨fun hr => (by obtain ⟨i, hi⟩ := hready; rw [hr] at hi; cases hi), fun i hi => ?_⟩
      obtain ⟨o, ho, hl, hrdy⟩ := mem_ready.1 hi
      have hil := (List.getElem?_eq_some_iff.1 ho).1
      have hik : i < k := by
        rcases Nat.lt_or_ge i k with h | h
        · exact h
        · exfalso
          refine hall fun j hj => ?_
          have hT := ht
          simp only [tailOK, Bool.and_eq_true] at hT
          have := all_range hT.2 hil
          simp only [Bool.or_eq_true, Bool.and_eq_true, ho] at this
          rcases this with h' | ⟨c1, c2⟩
          · have := Nat.le_of_ble_eq_true h'; omega
          · exact covers_listed hc hsz 30 i j o ho (all_range c1 (by omega)) fun e he hb => by
              have h1 := hrdy e he hb
              have := ble_of (List.all_eq_true.1 c2 e he) hb
              rw [getD_eq hsz (by omega)] at h1; exact h1
      obtain ⟨p, e3, e4⟩ := hget i o (htk hik ho)
      have hf := drawOK2_facts hok hik ho
      have hrdy' : ∀ e ∈ o.after.toList, Region.binds .any e = true → listed.getD e.on true = true := fun e he hb => by
        have h1 := hrdy e he hb
        rw [getD_eq hsz (by have := hf.back e he hb; omega)] at h1; exact h1
      have htt : (ops.take k).take i = ops.take i := by rw [List.take_take, Nat.min_eq_left (by omega)]
      have hsame : ∀ t ∈ readsOf ops.toArray o, look env' t = look (drawEnv env ((ops.take k).take i) (ps.take i)) t := by
        intro t ht'
        rw [htt]
        have hpl2 : ps.length = k := by rw [hpl, List.length_take]; omega
        obtain ⟨k1, k2⟩ := look_drawEnv (ops.take i) (ps.take i) env t (by simp [hpl2]; omega)
        have htk2 : ∀ j o', (ops.take i)[j]? = some o' → j < i ∧ ops[j]? = some o' := fun j o' hj => by
          rw [List.getElem?_take] at hj
          split at hj
          · exact ⟨by assumption, hj⟩
          · cases hj
        by_cases hex : ∃ (j : Nat) (o' : Oper), j < k ∧ ops[j]? = some o' ∧ o'.dst.getD 1000000 = t
        · obtain ⟨j, o', hjk, hj, hjt⟩ := hex
          have hfj := drawOK2_facts hok hjk hj
          rcases hf.reads t ht' j o' hjk hj hjt with ⟨hlt, hb⟩ | ⟨hlt, hb⟩
          · obtain ⟨e, he, hbi, hon⟩ := binds_mem hb
            have hlj := hrdy' e he hbi
            rw [hon] at hlj
            rw [k2 j o' (by rw [List.getElem?_take, if_pos hlt]; exact hj) hjt fun j' o'' hj' e' => (hfj.one j' o'' (by have := (htk2 j' o'' hj').1; omega) (htk2 j' o'' hj').2 (hjt.trans e'.symm)).symm, ← hjt, h1 j o' hj hlj, List.getElem?_take, if_pos hlt]
          · obtain ⟨e, he, hbi, hon⟩ := binds_mem hb
            have hlj : listed.getD j true = false := by
              cases hlj : listed.getD j true with
              | false => rfl
              | true => have := hc j o' hj hlj e he hbi; rw [hon, hl] at this; cases this
            rw [k1 fun j' o'' hj' e' => by
              have h4 := htk2 j' o'' hj'
              have := hfj.one j' o'' (by omega) h4.2 (hjt.trans e'.symm)
              omega]
            exact h2 t fun j' o'' hj' hl' e' => by
              have hj'k := h0 j' (List.getElem?_eq_some_iff.1 hj').1 hl'
              have := hfj.one j' o'' hj'k hj' (hjt.trans e'.symm)
              subst this
              rw [hlj] at hl'; cases hl'
        · rw [k1 fun j o' hj e => hex ⟨j, o', by have := (htk2 j o' hj).1; omega, (htk2 j o' hj).2, e⟩]
          exact h2 t fun j o' hj hl' e => hex ⟨j, o', h0 j (List.getElem?_eq_some_iff.1 hj).1 hl', hj, e⟩
      refine e4.go env' hsame F G' a w' hs i _ Q' (by simpa using ho) fun a2 w2 G2 hs2 hv2 => ?_
      refine ih (listed.setIfInBounds i true) a2 w2 G2 _ (by simpa using hsz) ?_ hs2 (hv.trans hv2) (fun j hj hl' => ?_) (fun j o' hj hl' => ?_) (fun t ht' => ?_) (hc.set (by omega) ho hrdy')
      · have hsub : ((List.range ops.length).filter fun j => !(listed.setIfInBounds i true).getD j true) = (((List.range ops.length).filter fun j => !listed.getD j true).filter fun j => !(listed.setIfInBounds i true).getD j true) := by
          rw [List.filter_filter]
          congr 1
          funext j
          rw [setD (by omega)]
          by_cases e : j = i
          · simp [e]
          · simp [e]
        rw [hsub]
        have := List.length_filter_lt_length_iff_exists (p := fun j => !(listed.setIfInBounds i true).getD j true) (l := (List.range ops.length).filter fun j => !listed.getD j true)
        have h5 := this.2 ⟨i, List.mem_filter.2 ⟨List.mem_range.2 hil, by simp [hl]⟩, by rw [setD (by omega)]; simp⟩
        omega
      · rw [setD (by omega)] at hl'
        split at hl'
        · omega
        · exact h0 j hj hl'
      · rw [look_cons]
        by_cases e : j = i
        · subst e; rw [ho] at hj; cases hj; rw [if_pos rfl, e3]; rfl
        · rw [setD (by omega), if_neg e] at hl'
          have hjk := h0 j (List.getElem?_eq_some_iff.1 hj).1 hl'
          rw [if_neg fun e' => e ((hf.one j o' hjk hj e'.symm).symm)]
          exact h1 j o' hj hl'
      · rw [look_cons, if_neg fun e => ht' i o ho (by rw [setD (by omega), if_pos rfl]) e.symm]
        exact h2 t fun j o' hj hl' => ht' j o' hj (by rw [setD (by omega)]; split <;> first | rfl | exact hl')

/-- The walk through such a region, in the text's order. -/
structure DrawD (P : Program) (l : Option Nat) (n m : Nat) (all : Array Oper) (env : Env) (σ : Sto) (ops : List Oper) (K : Env → Prop) : Prop where
  go : ∃ ps, DrawC P l n m all σ env ops ps ∧ K (drawEnv env ops ps)

theorem sat_drawC {id k : Nat} {ops : List Oper} {env : Env} (hm : P.follows .mixedOrders = true) (hok : drawOK2 ops k = true) (ht : tailOK ops k = true)
    (h : DrawD P l n m ops.toArray env σ (ops.take k) fun env' => SatOps P l n m ops.toArray (ops.drop k) env' σ Q) : Sat P l n m (.region id ops.toArray true) env σ Q := by
  obtain ⟨ps, h1, h2⟩ := h
  refine ⟨fun F G a w hs => ?_⟩
  refine wpIn_region_any hm ?_
  have hs' := hs.drew
  have hc : ∀ (i : Nat), i < ops.length → (Array.replicate ops.toArray.size false).getD i true = false := fun i hi => by simp [Array.getD_eq_getD_getElem?, hi]
  refine any_step hok ht h1 (F := F) (G := G) (w := w) (fun a' w' G' hs2 hv2 => list_evol hv2 _ _ _ (h2.go F G' a' w' hs2)) _ _ a w.drew G env (by simp) (by have := List.length_filter_le (fun i => !(Array.replicate ops.length false).getD i true) (List.range ops.length); simpa only [List.length_range, List.size_toArray] using this) hs' (Evol.drew hs) (fun i hi hl => ?_) (fun i o hi hl => ?_) (fun t _ => rfl) (fun i o hi hl => ?_)
  · rw [hc i hi] at hl; cases hl
  · rw [hc i (List.getElem?_eq_some_iff.1 hi).1] at hl; cases hl
  · rw [hc i (List.getElem?_eq_some_iff.1 hi).1] at hl; cases hl

end

section
variable {P : Program} {l : Option Nat} {tt : TT} {n m : Nat} {all : Array Oper} {env : Env} {σ : Sto} {Q : Post} {d : Nat} {op : Op} {ty : TypeId} {pos : String} {after : Array Edge} {os : List Oper} {K : Env → Prop} {p : PV}

theorem step_look {o : Oper} (hd : ∃ d, o.dst = some d ∧ d < n) (hnd : ∀ c, o.op ≠ .defer c) (h : StepAt P n m all (restr env (readsOf all o)) σ o p) : StepC P l n m all env σ o p := by
  refine ⟨fun env0 hag F G a w hs i K Q' hi hK => ?_⟩
  obtain ⟨d, hd1, hd2⟩ := hd
  refine step_wp (l := l) hs hi hd1 hd2 hnd (env1 := restr env (readsOf all o)) (fun t => ?_) h fun v hs' => ?_
  · rcases look_restr env t (readsOf all o) with ⟨q1, q2⟩ | q
    · exact .inr (q2.trans (hag t q1).symm)
    · exact .inl q
  · refine hK _ _ G ?_ (.refl _ _ _ _)
    rw [hd1]; exact hs'

theorem dd_nil (h : K env) : DrawD P l n m all env σ [] K := ⟨[], trivial, h⟩
theorem dd_cons {o : Oper} (h1 : StepC P l n m all env σ o p) (h : DrawD P l n m all ((o.dst.getD 1000000, p) :: env) σ os K) : DrawD P l n m all env σ (o :: os) K := by
  obtain ⟨ps, h2, h3⟩ := h
  exact ⟨p :: ps, ⟨h1, h2⟩, h3⟩

theorem dd_lk (hl : LookAt P n m (restr env (readsOf all ⟨some d, op, ty, pos, after, none⟩)) σ ⟨some d, op, ty, pos, after, none⟩ p) (hd : Nat.ble (d + 1) n = true) (hnd : isDefer op = false) (h : DrawD P l n m all ((d, p) :: env) σ os K) :
    DrawD P l n m all env σ (⟨some d, op, ty, pos, after, none⟩ :: os) K :=
  dd_cons (step_look ⟨d, rfl, ltn hd⟩ (fun c e => by rw [show op = .defer c from e] at hnd; cases hnd) (.free rfl hl)) h
theorem dd_lkg {j t : Nat} {want b : Bool} (hj : (all[j]?).bind (·.dst) = some t) (hb : look (restr env (readsOf all ⟨some d, op, ty, pos, after, some (j, want)⟩)) t = .bool b) (hw : b = want)
    (hl : LookAt P n m (restr env (readsOf all ⟨some d, op, ty, pos, after, some (j, want)⟩)) σ ⟨some d, op, ty, pos, after, some (j, want)⟩ p) (hd : Nat.ble (d + 1) n = true) (hnd : isDefer op = false) (h : DrawD P l n m all ((d, p) :: env) σ os K) :
    DrawD P l n m all env σ (⟨some d, op, ty, pos, after, some (j, want)⟩ :: os) K :=
  dd_cons (step_look ⟨d, rfl, ltn hd⟩ (fun c e => by rw [show op = .defer c from e] at hnd; cases hnd) (.yes rfl hj hb hw hl)) h
theorem dd_no {j t : Nat} {want b : Bool} (hj : (all[j]?).bind (·.dst) = some t) (hb : look (restr env (readsOf all ⟨some d, op, ty, pos, after, some (j, want)⟩)) t = .bool b) (hw : b = !want)
    (hd : Nat.ble (d + 1) n = true) (hnd : isDefer op = false) (h : DrawD P l n m all ((d, .dead) :: env) σ os K) :
    DrawD P l n m all env σ (⟨some d, op, ty, pos, after, some (j, want)⟩ :: os) K :=
  dd_cons (step_look ⟨d, rfl, ltn hd⟩ (fun c e => by rw [show op = .defer c from e] at hnd; cases hnd) (.no rfl hj hb hw)) h
theorem dd_split {t : Nat} {b : Bool} {ops : List Oper} (hb : look env t = .bool b) (h1 : b = true → DrawD P l n m all env σ ops K) (h0 : b = false → DrawD P l n m all env σ ops K) : DrawD P l n m all env σ ops K := by
  cases b
  · exact h0 rfl
  · exact h1 rfl
theorem dd_gsplit {j t : Nat} {want b : Bool} (hj : (all[j]?).bind (·.dst) = some t) (hb : look env t = .bool b)
    (h1 : b = true → DrawD P l n m all env σ (⟨some d, op, ty, pos, after, some (j, want)⟩ :: os) K) (h0 : b = false → DrawD P l n m all env σ (⟨some d, op, ty, pos, after, some (j, want)⟩ :: os) K) :
    DrawD P l n m all env σ (⟨some d, op, ty, pos, after, some (j, want)⟩ :: os) K := dd_split hb h1 h0

theorem opv_agree {env0 : Env} {ty : Nat} {x : Operand} (h : ∀ t ∈ Operand.tmp1 x, look env0 t = look env t) : opv tt env0 ty x = opv tt env ty x := by
  cases x with
  | tmp t => simp only [opv, h t (by simp [Operand.tmp1])]
  | _ => rfl

theorem passL_agree {env0 : Env} : ∀ (xs : List Operand) (ts : List TypeId), (∀ t ∈ xs.flatMap Operand.tmp1, look env0 t = look env t) → passL tt env0 xs ts = passL tt env xs ts
  | x :: xs, t :: ts, h => by
    simp only [passL]
    rw [passL_agree xs ts fun u hu => h u (by simp only [List.flatMap_cons, List.mem_append]; exact .inr hu)]
    congr 1
    have hx : ∀ u ∈ Operand.tmp1 x, look env0 u = look env u := fun u hu => h u (by simp only [List.flatMap_cons, List.mem_append]; exact .inl hu)
    unfold passP
    split
    · rfl
    · exact opv_agree hx
  | [], [], _ => rfl
  | [], _ :: _, _ => rfl
  | _ :: _, [], _ => rfl

/-- A call of a function that leaves the store as it is. -/
theorem step_call {fo : Operand} {args : Array Operand} {ats : Array TypeId} {f : FuncId} {ps : List PV} (hcal : Callable P f) (hc : SatCall P f ps σ fun x σ' => x = p ∧ σ' = σ) (hfo : fo = .func f) (hps : passL tt env args.toList ats.toList = ps) (hlen : Nat.ble args.size ats.size = true)
    (htup : ps.all (fun p => !p.isTup) = true) (hd : Nat.ble (d + 1) n = true) : StepC P l n m all env σ ⟨some d, .call ⟨.value fo, args, ats⟩, ty, pos, after, none⟩ p := by
  refine ⟨fun env0 hag F G a w hs i K Q' hi hK => ?_⟩
  have hag' : ∀ t ∈ args.toList.flatMap Operand.tmp1, look env0 t = look env t := fun t ht => hag t (by
    subst hfo
    simp only [readsOf, Op.operands, Call.operands, List.append_nil]
    rw [Array.toList_append, List.flatMap_append]
    exact List.mem_append_right _ ht)
  have hrule := op_callP (tt := tt) (l := l) (all := all) (rest := []) (n := n) (m := m) (d := d) (ty := ty) (pos := pos) (after := after) (env := env0) (Q := fun e env' σ' => e = .normal ∧ env' = (d, p) :: env0 ∧ σ' = σ) hcal hc hfo ((passL_agree _ _ hag').trans hps) hlen htup hd (ops_nil ⟨rfl, rfl, rfl⟩)
  have h1 := hrule.go F G a w hs
  unfold wpOpIn
  simp only [hi]
  rw [if_pos (by simp [Region.wanted])]
  simp only [wpListIn] at h1
  rw [if_pos (by simp [Region.wanted])] at h1
  refine wpIn_both (fun a' w' q => ?_) (fun e a' w' hne q => ?_) h1
  · obtain ⟨G', env', σ', ⟨_, rfl, rfl⟩, hs', hv⟩ := q
    exact hK _ _ _ hs' hv
  · obtain ⟨G', env', σ', ⟨he, _⟩, _⟩ := q
    exact absurd he hne

end
end Go.Proofs.Ytflgoabdgibphaa.Pv
