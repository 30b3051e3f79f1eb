/- Regions that draw their order, the first operation taking over what a slot owns. -/
import Derived.Test.YtflgoabdgibphaaPvZj
namespace Go.Proofs.Ytflgoabdgibphaa.Pv
open Go
set_option linter.unusedVariables false
set_option linter.unusedSimpArgs false

section
variable {P : Program} {l : Option Nat} {n m : Nat} {σ : Sto} {Q : Post}

/-- The first of the steps takes over what slot u owns. -/
structure StepM (P : Program) (l : Option Nat) (n m : Nat) (all : Array Oper) (env : Env) (σ : Sto) (u : Nat) (q : PV) (o : Oper) (p : PV) : Prop where
  go : ∀ (env0 : Env), look env0 u = look env u → ∀ F G a w, Sim n m F G env0 σ a w → ∀ (i : Nat) (K : Act → World → Prop) (Q' : Exit → Act → World → Prop), all[i]? = some o →
    (∀ a' w' G', Sim n m F G' ((o.dst.getD 1000000, p) :: (u, q) :: env0) σ a' w' → Evol m F G w G' w' → K a' w') → wpOpIn (Wd l) 0 P all Q' i K a w

/-- The slot is nobody else's. -/
def movOK (ops : List Oper) (k u : Nat) : Bool :=
  Nat.ble 1 k && (List.range k).all fun i => match ops[i]? with
    | none => false
    | some o => !Nat.beq (o.dst.getD 1000000) u && (Nat.beq i 0 || (readsOf ops.toArray o).all fun t => !Nat.beq t u)

theorem movOK_facts {ops : List Oper} {k u : Nat} (h : movOK ops k u = true) : 0 < k ∧ ∀ i (o : Oper), i < k → ops[i]? = some o → o.dst.getD 1000000 ≠ u ∧ (0 < i → ∀ t ∈ readsOf ops.toArray o, t ≠ u) := by
  simp only [movOK, Bool.and_eq_true] at h
  refine ⟨Nat.le_of_ble_eq_true h.1, fun i o hi ho => ?_⟩
  have h1 := all_range h.2 hi
  simp only [ho, Bool.and_eq_true, Bool.or_eq_true] at h1
  refine ⟨fun e => ?_, fun hp t ht e => ?_⟩
  · rw [e] at h1; simp at h1
  · rcases h1.2 with h2 | h2
    · have := Nat.eq_of_beq_eq_true h2; omega
    · have := List.all_eq_true.1 h2 t ht
      rw [e] at this; simp at this

/-- The steps, whichever way their order is drawn, the first one taking over; then the tail. -/
theorem any_stepT {ops : List Oper} {k u : Nat} {p0 q : PV} {o0 : Oper} {ps1 : List PV} {env : Env} (hok : drawOK2 ops k = true) (ht : tailOK ops k = true) (h00 : ops[0]? = some o0) (hmov : movOK ops k u = true) (hM : StepM P l n m ops.toArray env σ u q o0 p0) (hst : DrawC P l n m ops.toArray σ ((o0.dst.getD 1000000, p0) :: (u, q) :: env) ((ops.take k).drop 1) ps1) {Q' : Exit → Act → World → Prop} {F : Nat → Prop} {G : Gh} {w : World}
    (hQ : ∀ a w' G', Sim n m F G' (drawEnv ((u, q) :: env) (ops.take k) (p0 :: ps1)) σ a w' → Evol m F G w G' w' → wpListIn (Wd l) 0 P ops.toArray Q' (ops.drop k) a w') : ∀ (fuel : Nat) (listed : Array Bool) (a : Act) (w' : World) (G' : Gh) (env' : Env), listed.size = ops.length → ((List.range ops.length).filter fun i => !listed.getD i true).length ≤ fuel →
      Sim n m F G' env' σ a w' → Evol m F G w G' w' → (∀ i, i < ops.length → listed.getD i true = true → i < k) → (∀ i (o : Oper), ops[i]? = some o → listed.getD i true = true → look env' (o.dst.getD 1000000) = ((p0 :: ps1)[i]?).getD .dead) →
      (∀ t, (∀ i (o : Oper), ops[i]? = some o → listed.getD i true = true → o.dst.getD 1000000 ≠ t) → look env' t = look (bif listed.getD 0 true then (u, q) :: env else env) t) → Closed ops listed → wpAnyIn (Wd l) 0 P .any ops.toArray Q' fuel listed a w' := by
  obtain ⟨hk0, hmv⟩ := movOK_facts hmov
  obtain ⟨hpl1, hget1⟩ := drawC_get ((ops.take k).drop 1) ps1 _ hst
  obtain ⟨ps, hps⟩ : ∃ ps, ps = p0 :: ps1 := ⟨_, rfl⟩
  rw [← hps] at hQ ⊢
  have hkl : k ≤ ops.length := by simp only [tailOK, Bool.and_eq_true] at ht; exact Nat.le_of_ble_eq_true ht.1
  have hcons : ops.take k = o0 :: (ops.take k).drop 1 := by
    cases ops with
    | nil => simp at h00
    | cons x r => obtain ⟨k', rfl⟩ : ∃ k', k = k' + 1 := ⟨k - 1, by omega⟩; simp at h00; simp [h00]
  have hpl : ps.length = (ops.take k).length := by rw [hps, hcons, List.length_cons, List.length_cons, hpl1]
  have hget : ∀ (i : Nat) o, 0 < i → (ops.take k)[i]? = some o → ∃ p, ps[i]? = some p ∧ StepC P l n m ops.toArray (drawEnv ((u, q) :: env) ((ops.take k).take i) (ps.take i)) σ o p := by
    intro i o hi ho
    obtain ⟨i', rfl⟩ : ∃ i', i = i' + 1 := ⟨i - 1, by omega⟩
    rw [hcons, List.getElem?_cons_succ] at ho
    obtain ⟨p, e1, e2⟩ := hget1 i' o ho
    refine ⟨p, by rw [hps]; exact e1, ?_⟩
    rw [hcons, hps, List.take_succ_cons, List.take_succ_cons]
    exact e2
  have htk : ∀ {i : Nat} {o : Oper}, i < k → ops[i]? = some o → (ops.take k)[i]? = some o := fun {i o} hi ho => by rw [List.getElem?_take, if_pos hi]; exact ho
  have htk' : ∀ {i : Nat} {o : Oper}, (ops.take k)[i]? = some o → i < k ∧ ops[i]? = some o := fun {i o} h => by
    rw [List.getElem?_take] at h
    split at h
    · exact ⟨by assumption, h⟩
    · cases h
  have fin : ∀ (fuel : Nat) (listed : Array Bool) (a : Act) (w' : World) (G' : Gh) (env' : Env), listed.size = ops.length → ((List.range ops.length).filter fun i => !listed.getD i true).length ≤ fuel → (∀ i, i < k → listed.getD i true = true) → (∀ i, i < ops.length → listed.getD i true = true → i < k) → Sim n m F G' env' σ a w' → Evol m F G w G' w' →
      (∀ i (o : Oper), ops[i]? = some o → listed.getD i true = true → look env' (o.dst.getD 1000000) = (ps[i]?).getD .dead) →
      (∀ t, (∀ i (o : Oper), ops[i]? = some o → listed.getD i true = true → o.dst.getD 1000000 ≠ t) → look env' t = look (bif listed.getD 0 true then (u, q) :: env else env) t) → Closed ops listed → wpAnyIn (Wd l) 0 P .any ops.toArray Q' fuel listed a w' := by
    intro fuel listed a w' G' env' hsz hfu hall hsub hs hv h1 h2 hc
    refine any_tail ht fuel k listed a w' (Nat.le_refl _) hkl ?_ hsz hc (fun j hj => ⟨hsub j hj, hall j⟩) (hQ a w' G' (hs.weaken fun t => .inr (.inl ?_)) hv)
    · have hsub2 : ((List.range ops.length).filter fun i => Nat.ble k i).length ≤ ((List.range ops.length).filter fun i => !listed.getD i true).length := by
        have e : ((List.range ops.length).filter fun i => Nat.ble k i) = ((List.range ops.length).filter fun i => !listed.getD i true).filter fun i => Nat.ble k i := by
          rw [List.filter_filter]
          refine List.filter_congr fun x hx => ?_
          have hx := List.mem_range.1 hx
          cases hb : Nat.ble k x with
          | false => simp
          | true =>
            have := Nat.le_of_ble_eq_true hb
            have : listed.getD x true = false := by
              cases hh : listed.getD x true with
              | false => rfl
              | true => have := hsub x hx hh; omega
            simp [this]
        rw [e]; exact List.length_filter_le _ _
      have hcount : ∀ n, k ≤ n → ((List.range n).filter fun i => Nat.ble k i).length = n - k := by
        intro n
        induction n with
        | zero => intro _; simp
        | succ n ih =>
          intro hn
          rw [List.range_succ, List.filter_append, List.length_append]
          by_cases e : k ≤ n
          · have hb : Nat.ble k n = true := by simp only [Nat.ble_eq]; exact e
            rw [ih e, List.filter_cons_of_pos hb]; simp; omega
          · have hk : k = n + 1 := by omega
            have hz : ((List.range n).filter fun i => Nat.ble k i) = [] := by
              rw [List.filter_eq_nil_iff]; intro x hx hb; have := List.mem_range.1 hx; have := Nat.le_of_ble_eq_true hb; omega
            have hz2 : ([n].filter fun i => Nat.ble k i) = [] := by
              rw [List.filter_eq_nil_iff]; intro x hx hb; have := List.mem_singleton.1 hx; have := Nat.le_of_ble_eq_true hb; omega
            rw [hz, hz2]; simp; omega
      have := hcount ops.length hkl
      omega
    · have hb0 : listed.getD 0 true = true := hall 0 hk0
      obtain ⟨k1, k2⟩ := look_drawEnv (ops.take k) ps ((u, q) :: env) t hpl
      by_cases hex : ∃ (i : Nat) (o : Oper), (ops.take k)[i]? = some o ∧ o.dst.getD 1000000 = t
      · obtain ⟨i, o, hi, ht'⟩ := hex
        obtain ⟨hik, hio⟩ := htk' hi
        have hf := drawOK2_facts hok hik hio
        rw [k2 i o hi ht' fun j o' hj e => (hf.one j o' (htk' hj).1 (htk' hj).2 (ht'.trans e.symm)).symm, ← ht']
        exact (h1 i o hio (hall i hik)).symm
      · rw [k1 fun i o hi e => hex ⟨i, o, hi, e⟩]
        have h3 := h2 t fun i o hi hl e => hex ⟨i, o, htk (hsub i (List.getElem?_eq_some_iff.1 hi).1 hl) hi, e⟩
        rw [hb0] at h3; exact h3.symm
  intro fuel
  induction fuel with
  | zero =>
    intro listed a w' G' env' hsz hfu hs hv h0 h1 h2 hc
    refine fin 0 listed a w' G' env' hsz hfu (fun i hi => ?_) h0 hs hv h1 h2 hc
    cases hl : listed.getD i true with
    | true => rfl
    | false =>
      have : i ∈ (List.range ops.length).filter fun i => !listed.getD i true := List.mem_filter.2 ⟨List.mem_range.2 (by omega), by simp [hl]⟩
      rw [List.length_eq_zero_iff.1 (Nat.le_zero.1 hfu)] at this; cases this
  | succ fuel ih =>
    intro listed a w' G' env' hsz hfu hs hv h0 h1 h2 hc
    by_cases hall : ∀ i, i < k → listed.getD i true = true
    · exact fin (fuel + 1) listed a w' G' env' hsz hfu hall h0 hs hv h1 h2 hc
    · have hready : ∃ i, i ∈ Region.ready .any ops.toArray listed := by
        have : ∃ i, i < k ∧ listed.getD i true = false := by
          refine Classical.byContradiction fun hn => hall fun i hi => ?_
          cases hb : listed.getD i true with
          | true => rfl
          | false => exact absurd ⟨i, hi, hb⟩ hn
        obtain ⟨i, ⟨hik, hif⟩, hmin⟩ := least_ex this
        have hio : ops[i]? = some ops[i] := by simp
        have hf := drawOK2_facts hok hik hio
        refine ⟨i, mem_ready.2 ⟨_, hio, hif, fun e he hb => ?_⟩⟩
        have hon := hf.back e he hb
        rw [getD_eq hsz (by omega)]
        cases hb' : listed.getD e.on true with
        | true => rfl
        | false => have := hmin e.on ⟨by omega, hb'⟩; omega
      refine ⟨fun hr => (by obtain ⟨i, hi⟩ := hready; rw [hr] at hi; cases hi), fun i hi => ?_⟩
      obtain ⟨o, ho, hl, hrdy⟩ := mem_ready.1 hi
      have hil := (List.getElem?_eq_some_iff.1 ho).1
      have hik : i < k := by
        rcases Nat.lt_or_ge i k with h | h
        · exact h
        · exfalso
          refine hall fun j hj => ?_
          have hT := ht
          simp only [tailOK, Bool.and_eq_true] at hT
          have := all_range hT.2 hil
          simp only [Bool.or_eq_true, Bool.and_eq_true, ho] at this
          rcases this with h' | ⟨c1, c2⟩
          · have := Nat.le_of_ble_eq_true h'; omega
          · exact covers_listed hc hsz 30 i j o ho (all_range c1 (by omega)) fun e he hb => by
              have h1 := hrdy e he hb
              have := ble_of (List.all_eq_true.1 c2 e he) hb
              rw [getD_eq hsz (by omega)] at h1; exact h1
      have hf := drawOK2_facts hok hik ho
      have hrdy' : ∀ e ∈ o.after.toList, Region.binds .any e = true → listed.getD e.on true = true := fun e he hb => by
        have h1 := hrdy e he hb
        rw [getD_eq hsz (by have := hf.back e he hb; omega)] at h1; exact h1
      rcases Nat.eq_zero_or_pos i with hi0 | hi0
      · subst hi0
        rw [h00] at ho
        injection ho with ho
        subst ho
        have hu : look env' u = look env u := by
          have h3 := h2 u fun j o' hj hl' e => (hmv j o' (h0 j (List.getElem?_eq_some_iff.1 hj).1 hl') hj).1 e
          rw [hl] at h3; exact h3
        refine hM.go env' hu F G' a w' hs 0 _ Q' (by simpa using h00) fun a2 w2 G2 hs2 hv2 => ?_
        refine ih (listed.setIfInBounds 0 true) a2 w2 G2 _ (by simpa using hsz) ?_ hs2 (hv.trans hv2) (fun j hj hl' => ?_) (fun j o' hj hl' => ?_) (fun t ht' => ?_) (hc.set (by omega) h00 hrdy')
        · have hsub : ((List.range ops.length).filter fun j => !(listed.setIfInBounds 0 true).getD j true) = (((List.range ops.length).filter fun j => !listed.getD j true).filter fun j => !(listed.setIfInBounds 0 true).getD j true) := by
            rw [List.filter_filter]
            congr 1
            funext j
            rw [setD (by omega)]
            by_cases e : j = 0
            · simp [e]
            · simp [e]
          rw [hsub]
          have := List.length_filter_lt_length_iff_exists (p := fun j => !(listed.setIfInBounds 0 true).getD j true) (l := (List.range ops.length).filter fun j => !listed.getD j true)
          have h5 := this.2 ⟨0, List.mem_filter.2 ⟨List.mem_range.2 hil, by simp [hl]⟩, by rw [setD (by omega)]; simp⟩
          omega
        · rw [setD (by omega)] at hl'
          split at hl'
          · omega
          · exact h0 j hj hl'
        · rw [look_cons]
          by_cases e : j = 0
          · subst e; rw [h00] at hj; cases hj; rw [if_pos rfl, hps]; rfl
          · rw [setD (by omega), if_neg e] at hl'
            have hjk := h0 j (List.getElem?_eq_some_iff.1 hj).1 hl'
            rw [if_neg fun e' => e ((hf.one j o' hjk hj e'.symm).symm), look_cons, if_neg (hmv j o' hjk hj).1]
            exact h1 j o' hj hl'
        · rw [look_cons, if_neg fun e => ht' 0 _ h00 (by rw [setD (by omega), if_pos rfl]) e.symm, setD (by omega), if_pos rfl]
          simp only [cond_true]
          rw [look_cons, look_cons]
          split
          · rfl
          · rename_i hne
            have h3 := h2 t fun j o' hj hl' => ht' j o' hj (by rw [setD (by omega)]; split <;> first | rfl | exact hl')
            rw [hl] at h3; exact h3
      have hbase : ∀ t, t ≠ u → look (bif listed.getD 0 true then (u, q) :: env else env) t = look env t := fun t htu => by
        cases listed.getD 0 true
        · rfl
        · simp only [cond_true]; rw [look_cons, if_neg htu]
      obtain ⟨p, e3, e4⟩ := hget i o hi0 (htk hik ho)
      have htt : (ops.take k).take i = ops.take i := by rw [List.take_take, Nat.min_eq_left (by omega)]
      have hsame : ∀ t ∈ readsOf ops.toArray o, look env' t = look (drawEnv ((u, q) :: env) ((ops.take k).take i) (ps.take i)) t := by
        intro t ht'
        have htu : t ≠ u := (hmv i o hik ho).2 hi0 t ht'
        have hb2 : look ((u, q) :: env) t = look env t := by rw [look_cons, if_neg htu]
        rw [htt]
        have hpl2 : ps.length = k := by rw [hpl, List.length_take]; omega
        obtain ⟨k1, k2⟩ := look_drawEnv (ops.take i) (ps.take i) ((u, q) :: env) t (by simp [hpl2]; omega)
        have htk2 : ∀ j o', (ops.take i)[j]? = some o' → j < i ∧ ops[j]? = some o' := fun j o' hj => by
          rw [List.getElem?_take] at hj
          split at hj
          · exact ⟨by assumption, hj⟩
          · cases hj
        by_cases hex : ∃ (j : Nat) (o' : Oper), j < k ∧ ops[j]? = some o' ∧ o'.dst.getD 1000000 = t
        · obtain ⟨j, o', hjk, hj, hjt⟩ := hex
          have hfj := drawOK2_facts hok hjk hj
          rcases hf.reads t ht' j o' hjk hj hjt with ⟨hlt, hb⟩ | ⟨hlt, hb⟩
          · obtain ⟨e, he, hbi, hon⟩ := binds_mem hb
            have hlj := hrdy' e he hbi
            rw [hon] at hlj
            rw [k2 j o' (by rw [List.getElem?_take, if_pos hlt]; exact hj) hjt fun j' o'' hj' e' => (hfj.one j' o'' (by have := (htk2 j' o'' hj').1; omega) (htk2 j' o'' hj').2 (hjt.trans e'.symm)).symm, ← hjt, h1 j o' hj hlj, List.getElem?_take, if_pos hlt]
          · obtain ⟨e, he, hbi, hon⟩ := binds_mem hb
            have hlj : listed.getD j true = false := by
              cases hlj : listed.getD j true with
              | false => rfl
              | true => have := hc j o' hj hlj e he hbi; rw [hon, hl] at this; cases this
            rw [k1 fun j' o'' hj' e' => by
              have h4 := htk2 j' o'' hj'
              have := hfj.one j' o'' (by omega) h4.2 (hjt.trans e'.symm)
              omega]
            rw [hb2, ← hbase t htu]
            exact h2 t fun j' o'' hj' hl' e' => by
              have hj'k := h0 j' (List.getElem?_eq_some_iff.1 hj').1 hl'
              have := hfj.one j' o'' hj'k hj' (hjt.trans e'.symm)
              subst this
              rw [hlj] at hl'; cases hl'
        · rw [k1 fun j o' hj e => hex ⟨j, o', by have := (htk2 j o' hj).1; omega, (htk2 j o' hj).2, e⟩]
          rw [hb2, ← hbase t htu]
          exact h2 t fun j o' hj hl' e => hex ⟨j, o', h0 j (List.getElem?_eq_some_iff.1 hj).1 hl', hj, e⟩
      refine e4.go env' hsame F G' a w' hs i _ Q' (by simpa using ho) fun a2 w2 G2 hs2 hv2 => ?_
      refine ih (listed.setIfInBounds i true) a2 w2 G2 _ (by simpa using hsz) ?_ hs2 (hv.trans hv2) (fun j hj hl' => ?_) (fun j o' hj hl' => ?_) (fun t ht' => ?_) (hc.set (by omega) ho hrdy')
      · have hsub : ((List.range ops.length).filter fun j => !(listed.setIfInBounds i true).getD j true) = (((List.range ops.length).filter fun j => !listed.getD j true).filter fun j => !(listed.setIfInBounds i true).getD j true) := by
          rw [List.filter_filter]
          congr 1
          funext j
          rw [setD (by omega)]
          by_cases e : j = i
          · simp [e]
          · simp [e]
        rw [hsub]
        have := List.length_filter_lt_length_iff_exists (p := fun j => !(listed.setIfInBounds i true).getD j true) (l := (List.range ops.length).filter fun j => !listed.getD j true)
        have h5 := this.2 ⟨i, List.mem_filter.2 ⟨List.mem_range.2 hil, by simp [hl]⟩, by rw [setD (by omega)]; simp⟩
        omega
      · rw [setD (by omega)] at hl'
        split at hl'
        · omega
        · exact h0 j hj hl'
      · rw [look_cons]
        by_cases e : j = i
        · subst e; rw [ho] at hj; cases hj; rw [if_pos rfl, e3]; rfl
        · rw [setD (by omega), if_neg e] at hl'
          have hjk := h0 j (List.getElem?_eq_some_iff.1 hj).1 hl'
          rw [if_neg fun e' => e ((hf.one j o' hjk hj e'.symm).symm)]
          exact h1 j o' hj hl'
      · rw [look_cons, if_neg fun e => ht' i o ho (by rw [setD (by omega), if_pos rfl]) e.symm, setD (by omega), if_neg (by omega)]
        exact h2 t fun j o' hj hl' => ht' j o' hj (by rw [setD (by omega)]; split <;> first | rfl | exact hl')


end

section
variable {P : Program} {l : Option Nat} {tt : TT} {n m : Nat} {all : Array Oper} {env : Env} {σ : Sto} {d : Nat} {op : Op} {ty : TypeId} {pos : String} {after : Array Edge} {os : List Oper} {K : Env → Prop} {p : PV}

theorem Sim.setTup0 {F : Nat → Prop} {G : Gh} {a : Act} {w : World} (hs : Sim n m F G env σ a w) (hd : d < n) : Sim n m F G ((d, .tup []) :: env) σ (a.put (some d) undef) w :=
  hs.setN hd (.inr (.inr ⟨#[], [], rfl, rfl, rfl, fun j v c h => by simp at h⟩)) trivial

/-- Passed over: what hangs on it is passed over, too. -/
theorem stepC_no {j t : Nat} {want b : Bool} (hj : (all[j]?).bind (·.dst) = some t) (hb : look env t = .bool b) (hw : b = !want) (hd : Nat.ble (d + 1) n = true) : StepC P l n m all env σ ⟨some d, op, ty, pos, after, some (j, want)⟩ (.tup []) := by
  refine ⟨fun env0 hag F G a w hs i K Q' hi hK => ?_⟩
  have hb0 : look env0 t = .bool b := (hag t (by simp [readsOf, hj])).trans hb
  unfold wpOpIn
  simp only [hi]
  rw [if_neg (by simp [Region.wanted, yielded_of hs hj hb0, hw])]
  exact ⟨fun _ _ => trivial, hK _ _ G (hs.setTup0 (ltn hd)) (.refl _ _ _ _)⟩

theorem stepC_un {j t : Nat} {want : Bool} (hj : (all[j]?).bind (·.dst) = some t) (hb : look env t = .tup []) (hd : Nat.ble (d + 1) n = true) : StepC P l n m all env σ ⟨some d, op, ty, pos, after, some (j, want)⟩ (.tup []) := by
  refine ⟨fun env0 hag F G a w hs i K Q' hi hK => ?_⟩
  have hb0 : look env0 t = .tup [] := (hag t (by simp [readsOf, hj])).trans hb
  have hy : yielded all a.tmps j = none := by
    have hr := hs.rep t
    rw [hb0] at hr
    unfold yielded
    rw [hj]
    simp only [Option.bind_some]
    by_cases ht : t < a.tmps.size
    · have e : a.tmps.getD t undef = a.tmps[t] := by simp [ht]
      rw [e] at hr
      obtain ⟨vs, hv⟩ := rep_tup hr
      simp [ht, hv]
    · simp [Array.getElem?_eq_none (Nat.le_of_not_lt ht)]
  unfold wpOpIn
  simp only [hi]
  rw [if_neg (by simp [Region.wanted, hy])]
  exact ⟨fun _ _ => trivial, hK _ _ G (hs.setTup0 (ltn hd)) (.refl _ _ _ _)⟩

/-- What slot u owns goes over into slot d. -/
theorem stepM_move {u : Nat} (hp : look env u = p) (ho : p.isOwn = true) (hd : Nat.ble (d + 1) n = true) : StepM P l n m all env σ u (left1 p) ⟨some d, .move (.tmp u), ty, pos, after, none⟩ p := by
  refine ⟨fun env0 hu F G a w hs i K Q' hi hK => ?_⟩
  have hrule := op_take (P := P) (l := l) (all := all) (rest := []) (n := n) (m := m) (d := d) (ty := ty) (pos := pos) (after := after) (env := env0) (σ := σ) (op := .move (.tmp u)) (Q := fun e env' σ' => e = .normal ∧ env' = (d, p) :: (u, left1 p) :: env0 ∧ σ' = σ) (.inr rfl) (hu.trans hp) ho (ltn hd) (ops_nil ⟨rfl, rfl, rfl⟩)
  have h1 := hrule.go F G a w hs
  unfold wpOpIn
  simp only [hi]
  rw [if_pos (by simp [Region.wanted])]
  simp only [wpListIn] at h1
  rw [if_pos (by simp [Region.wanted])] at h1
  refine wpIn_both (fun a' w' q => ?_) (fun e a' w' hne q => ?_) h1
  · obtain ⟨G', env', σ', ⟨_, rfl, rfl⟩, hs', hv⟩ := q
    exact hK _ _ _ hs' hv
  · obtain ⟨G', env', σ', ⟨he, _⟩, _⟩ := q
    exact absurd he hne

theorem sat_drawT {Q : Post} {id k u : Nat} {os2 : List Oper} (hm : P.follows .mixedOrders = true) (hok : drawOK2 (⟨some d, .move (.tmp u), ty, pos, after, none⟩ :: os2) k = true) (ht : tailOK (⟨some d, .move (.tmp u), ty, pos, after, none⟩ :: os2) k = true)
    (hmov : movOK (⟨some d, .move (.tmp u), ty, pos, after, none⟩ :: os2) k u = true) (hp : look env u = p) (ho : p.isOwn = true) (hd : Nat.ble (d + 1) n = true)
    (h : DrawD P l n m (⟨some d, .move (.tmp u), ty, pos, after, none⟩ :: os2 : List Oper).toArray ((d, p) :: (u, left1 p) :: env) σ (((⟨some d, .move (.tmp u), ty, pos, after, none⟩ :: os2 : List Oper).take k).drop 1) fun env' => SatOps P l n m (⟨some d, .move (.tmp u), ty, pos, after, none⟩ :: os2 : List Oper).toArray ((⟨some d, .move (.tmp u), ty, pos, after, none⟩ :: os2 : List Oper).drop k) env' σ Q) :
    Sat P l n m (.region id (⟨some d, .move (.tmp u), ty, pos, after, none⟩ :: os2 : List Oper).toArray true) env σ Q := by
  obtain ⟨ps, h1, h2⟩ := h
  obtain ⟨hk0, _⟩ := movOK_facts hmov
  generalize ho0 : (⟨some d, .move (.tmp u), ty, pos, after, none⟩ : Oper) = o0 at *
  refine ⟨fun F G a w hs => ?_⟩
  refine wpIn_region_any hm ?_
  have hs' := hs.drew
  have hM : StepM P l n m (o0 :: os2).toArray env σ u (left1 p) o0 p := by rw [← ho0]; exact stepM_move hp ho hd
  have hd0 : o0.dst.getD 1000000 = d := by rw [← ho0]; rfl
  have hfin : drawEnv ((u, left1 p) :: env) ((o0 :: os2).take k) (p :: ps) = drawEnv ((d, p) :: (u, left1 p) :: env) (((o0 :: os2).take k).drop 1) ps := by
    obtain ⟨k', rfl⟩ : ∃ k', k = k' + 1 := ⟨k - 1, by omega⟩
    simp only [List.take_succ_cons, drawEnv, List.drop_succ_cons, List.drop_zero, hd0]
  have hc : ∀ (i : Nat), i < (o0 :: os2).length → (Array.replicate (o0 :: os2).toArray.size false).getD i true = false := fun i hi => by
    have hi' : i < os2.length + 1 := by simpa using hi
    simp [Array.getD_eq_getD_getElem?, hi']
  refine any_stepT hok ht (o0 := o0) (p0 := p) (q := left1 p) (u := u) rfl hmov hM (by rw [hd0]; exact h1) (F := F) (G := G) (w := w) (fun a' w' G' hs2 hv2 => list_evol hv2 _ _ _ (h2.go F G' a' w' (by rw [hfin] at hs2; exact hs2))) _ _ a w.drew G env (by simp) (by have := List.length_filter_le (fun i => !(Array.replicate (o0 :: os2).toArray.size false).getD i true) (List.range (o0 :: os2).length); simpa only [List.length_range, List.size_toArray] using this) hs' (Evol.drew hs) (fun i hi hl => ?_) (fun i o hi hl => ?_) (fun t _ => ?_) (fun i o hi hl => ?_)
  · rw [hc i hi] at hl; cases hl
  · rw [hc i (List.getElem?_eq_some_iff.1 hi).1] at hl; cases hl
  · rw [hc 0 (by simp)]; rfl
  · rw [hc i (List.getElem?_eq_some_iff.1 hi).1] at hl; cases hl

theorem opvs_agree {env0 : Env} : ∀ {xs : List Operand} {es : List PV}, (∀ t ∈ xs.flatMap Operand.tmp1, look env0 t = look env t) → Opvs tt env xs es → Opvs tt env0 xs es := fun {xs es} hag hx => ⟨by
  rw [hx.e]
  refine List.map_congr_left fun x hxm => (opv_agree fun t ht => hag t (List.mem_flatMap.2 ⟨x, hxm, ht⟩)).symm⟩

/-- A new row, shared. -/
theorem step_build {t : TypeId} {len : Nat} {parts : Array (Nat × Operand)} {e : TI} {es : List PV} (ht : TabOK P tt) (he : eti tt t = some e) (hx : Opvs tt env (parts.toList.map (·.2)) es) (hpl : es.all PV.pl = true)
    (hsz : es.all (fun p => Nat.beq p.cells.length e.size) = true) (hbig : Nat.ble (es.length * e.size) 16777216 = true) (hlen : len = parts.toList.length) (hparts : parts.toList.map (·.1) = List.range' 0 parts.toList.length)
    (hd : Nat.ble (d + 1) n = true) : StepC P l n m all env σ ⟨some d, .buildSlice t len parts, ty, pos, after, none⟩ (.sl .sh e.size es) := by
  refine ⟨fun env0 hag F G a w hs i K Q' hi hK => ?_⟩
  have hag' : ∀ t ∈ (parts.toList.map (·.2)).flatMap Operand.tmp1, look env0 t = look env t := fun t ht => hag t (by
    simp only [readsOf, Op.operands, List.append_nil]; exact ht)
  have hrule := op_buildSliceX (P := P) (l := l) (all := all) (rest := []) (n := n) (m := m) (d := d) (ty := ty) (pos := pos) (after := after) (env := env0) (σ := σ) (Q := fun e' env' σ' => e' = .normal ∧ env' = (d, .sl .sh e.size es) :: env0 ∧ σ' = σ) .sh ht he (opvs_agree hag' hx) hpl hsz hbig hlen hparts hd (ops_nil ⟨rfl, rfl, rfl⟩)
  have h1 := hrule.go F G a w hs
  unfold wpOpIn
  simp only [hi]
  rw [if_pos (by simp [Region.wanted])]
  simp only [wpListIn] at h1
  rw [if_pos (by simp [Region.wanted])] at h1
  refine wpIn_both (fun a' w' q => ?_) (fun e a' w' hne q => ?_) h1
  · obtain ⟨G', env', σ', ⟨_, rfl, rfl⟩, hs', hv⟩ := q
    exact hK _ _ _ hs' hv
  · obtain ⟨G', env', σ', ⟨he, _⟩, _⟩ := q
    exact absurd he hne

theorem dd_no2 {j t : Nat} {want b : Bool} (hj : (all[j]?).bind (·.dst) = some t) (hb : look env t = .bool b) (hw : b = !want) (hd : Nat.ble (d + 1) n = true) (h : DrawD P l n m all ((d, .tup []) :: env) σ os K) :
    DrawD P l n m all env σ (⟨some d, op, ty, pos, after, some (j, want)⟩ :: os) K := dd_cons (stepC_no hj hb hw hd) h
theorem dd_build {t : TypeId} {len : Nat} {parts : Array (Nat × Operand)} {e : TI} {es : List PV} (ht : TabOK P tt) (he : eti tt t = some e) (hx : Opvs tt env (parts.toList.map (·.2)) es) (hpl : es.all PV.pl = true)
    (hsz : es.all (fun p => Nat.beq p.cells.length e.size) = true) (hbig : Nat.ble (es.length * e.size) 16777216 = true) (hlen : len = parts.toList.length) (hparts : parts.toList.map (·.1) = List.range' 0 parts.toList.length)
    (hd : Nat.ble (d + 1) n = true) (h : DrawD P l n m all ((d, .sl .sh e.size es) :: env) σ os K) : DrawD P l n m all env σ (⟨some d, .buildSlice t len parts, ty, pos, after, none⟩ :: os) K :=
  dd_cons (step_build ht he hx hpl hsz hbig hlen hparts hd) h
theorem dd_un {j t : Nat} {want : Bool} (hj : (all[j]?).bind (·.dst) = some t) (hb : look env t = .tup []) (hd : Nat.ble (d + 1) n = true) (h : DrawD P l n m all ((d, .tup []) :: env) σ os K) :
    DrawD P l n m all env σ (⟨some d, op, ty, pos, after, some (j, want)⟩ :: os) K := dd_cons (stepC_un hj hb hd) h
end
end Go.Proofs.Ytflgoabdgibphaa.Pv
