/- A region that draws its order: operations that only look. -/
import Derived.Test.YtflgoabdgibphaaPvS
namespace Go.Proofs.Ytflgoabdgibphaa.Pv
open Go
set_option linter.unusedVariables false
set_option linter.unusedSimpArgs false

/-- An operation that only looks: what it yields. -/
structure LookAt (P : Program) (n m : Nat) (env : Env) (σ : Sto) (o : Oper) (p : PV) : Prop where
  go : ∀ F G a w, Sim n m F G env σ a w → ∃ v, (execOp a.eval o).run P w = .ok (.value v) w ∧ RepN G w v p ∧ p.lt σ.length

theorem LookAt.of {P : Program} {n m : Nat} {env : Env} {σ : Sto} {o : Oper} {r : Option (Prop × PV)} {c : Prop} {p : PV} (hl : ∀ F G a w, Sim n m F G env σ a w → Looks P G σ w (execOp a.eval o) r)
    (hr : r = some (c, p)) (hc : c) : LookAt P n m env σ o p := ⟨fun F G a w hs => hl F G a w hs c p hr hc⟩

/-- .. with its guard. -/
inductive StepAt (P : Program) (n m : Nat) (all : Array Oper) (env : Env) (σ : Sto) : Oper → PV → Prop
  | free {o : Oper} {p : PV} (hg : o.guard = none) (h : LookAt P n m env σ o p) : StepAt P n m all env σ o p
  | yes {o : Oper} {p : PV} {j t : Nat} {want b : Bool} (hg : o.guard = some (j, want)) (hj : (all[j]?).bind (·.dst) = some t) (hb : look env t = .bool b) (hw : b = want) (h : LookAt P n m env σ o p) : StepAt P n m all env σ o p
  | no {o : Oper} {j t : Nat} {want b : Bool} (hg : o.guard = some (j, want)) (hj : (all[j]?).bind (·.dst) = some t) (hb : look env t = .bool b) (hw : b = !want) : StepAt P n m all env σ o .dead

def restr (env : Env) (ts : List Nat) : Env := ts.map fun t => (t, look env t)

theorem look_restr (env : Env) (t : Nat) : ∀ ts : List Nat, (t ∈ ts ∧ look (restr env ts) t = look env t) ∨ look (restr env ts) t = .dead
  | [] => .inr rfl
  | u :: r => by
    show (t ∈ u :: r ∧ look ((u, look env u) :: restr env r) t = look env t) ∨ look ((u, look env u) :: restr env r) t = .dead
    rw [look_cons]
    by_cases e : t = u
    · subst e; rw [if_pos rfl]; exact .inl ⟨List.mem_cons_self, rfl⟩
    · rw [if_neg e]
      rcases look_restr env t r with ⟨h1, h2⟩ | h
      · exact .inl ⟨List.mem_cons_of_mem _ h1, h2⟩
      · exact .inr h

def Operand.tmp1 : Operand → List Nat
  | .tmp t => [t]
  | _ => []
def readsOf (all : Array Oper) (o : Oper) : List Nat :=
  (o.op.operands.toList.flatMap Operand.tmp1) ++ (match o.guard with | some (j, _) => ((all[j]?).bind (·.dst)).toList | none => [])

/-- The operations in the text's order. -/
def DrawSteps (P : Program) (n m : Nat) (all : Array Oper) (σ : Sto) : Env → List Oper → List PV → Prop
  | _, [], [] => True
  | env, o :: os, p :: ps => (∃ d, o.dst = some d ∧ Nat.ble (d + 1) n = true ∧ StepAt P n m all (restr env (readsOf all o)) σ o p ∧ DrawSteps P n m all σ ((d, p) :: env) os ps)
  | _, _, _ => False

def drawEnv : Env → List Oper → List PV → Env
  | env, o :: os, p :: ps => drawEnv ((o.dst.getD 1000000, p) :: env) os ps
  | env, _, _ => env

def bindsOn (o : Oper) (j : Nat) : Bool := o.after.any fun e => Region.binds .any e && Nat.beq e.on j
def isDefer : Op → Bool
  | .defer _ => true
  | _ => false

/-- Whether the edges keep apart whatever hangs together. -/
def drawOK (ops : List Oper) : Bool :=
  (List.range ops.length).all fun i => match ops[i]? with
    | none => false
    | some o => match o.dst with
      | none => false
      | some d => !isDefer o.op && (o.after.toList.all fun e => Nat.ble (e.on + 1) i) &&
        (List.range ops.length).all fun j => match ops[j]? with
          | none => false
          | some o' => match o'.dst with
            | none => false
            | some d' => (Nat.beq i j || !Nat.beq d d') && ((readsOf ops.toArray o).all fun t => !Nat.beq d' t || ((Nat.ble (j + 1) i && bindsOn o j) || (Nat.ble (i + 1) j && bindsOn o' i)))

section
variable {P : Program} {l : Option Nat} {n m : Nat} {σ : Sto} {Q : Post}

theorem drawSteps_get {all : Array Oper} : ∀ (ops : List Oper) (ps : List PV) (env : Env), DrawSteps P n m all σ env ops ps → ps.length = ops.length ∧ ∀ (i : Nat) o, ops[i]? = some o → ∃ d p, o.dst = some d ∧ d < n ∧ ps[i]? = some p ∧
    StepAt P n m all (restr (drawEnv env (ops.take i) (ps.take i)) (readsOf all o)) σ o p
  | [], [], _, _ => ⟨rfl, fun i o h => by simp at h⟩
  | o :: os, p :: ps, env, h => by
    obtain ⟨d, h1, h2, h3, h4⟩ := h
    obtain ⟨k1, k2⟩ := drawSteps_get os ps _ h4
    refine ⟨by simp [k1], fun i o' hi => ?_⟩
    cases i with
    | zero => simp at hi; subst hi; exact ⟨d, p, h1, Nat.le_of_ble_eq_true h2, rfl, h3⟩
    | succ i =>
      simp at hi
      obtain ⟨d', p', e1, e2, e3, e4⟩ := k2 i o' hi
      refine ⟨d', p', e1, e2, by simpa using e3, ?_⟩
      simp only [List.take_succ_cons, drawEnv, h1, Option.getD_some]
      exact e4
  | [], _ :: _, _, h => h.elim
  | _ :: _, [], _, h => h.elim

theorem look_drawEnv : ∀ (ops : List Oper) (ps : List PV) (env : Env) (t : Nat), ps.length = ops.length →
    ((∀ (i : Nat) (o : Oper), ops[i]? = some o → o.dst.getD 1000000 ≠ t) → look (drawEnv env ops ps) t = look env t) ∧
    ∀ (i : Nat) (o : Oper), ops[i]? = some o → o.dst.getD 1000000 = t → (∀ (j : Nat) (o' : Oper), ops[j]? = some o' → o'.dst.getD 1000000 = t → j = i) → look (drawEnv env ops ps) t = (ps[i]?).getD .dead
  | [], _, _, _, _ => ⟨fun _ => by unfold drawEnv; rfl, fun i o h => by simp at h⟩
  | o :: os, p :: ps, env, t, hl => by
    obtain ⟨k1, k2⟩ := look_drawEnv os ps ((o.dst.getD 1000000, p) :: env) t (by simpa using hl)
    refine ⟨fun h => ?_, fun i o' hi ht hu => ?_⟩
    · show look (drawEnv ((o.dst.getD 1000000, p) :: env) os ps) t = _
      rw [k1 fun i o' hi => h (i + 1) o' (by simpa using hi), look_cons, if_neg (Ne.symm (h 0 o rfl))]
    · show look (drawEnv ((o.dst.getD 1000000, p) :: env) os ps) t = _
      cases i with
      | zero =>
        simp at hi; subst hi
        rw [k1 fun j o' hj e => by have := hu (j + 1) o' (by simpa using hj) e; omega, look_cons, if_pos ht.symm]
        rfl
      | succ i =>
        simp at hi
        rw [k2 i o' hi ht fun j o'' hj e => by have := hu (j + 1) o'' (by simpa using hj) e; omega]
        simp
  | _ :: _, [], _, _, hl => by simp at hl

theorem all_range {k : Nat} {p : Nat → Bool} (h : (List.range k).all p = true) {i : Nat} (hi : i < k) : p i = true := List.all_eq_true.1 h i (List.mem_range.2 hi)

structure DrawFacts (ops : List Oper) (i : Nat) (o : Oper) : Prop where
  dst : ∃ d, o.dst = some d
  nd : ∀ c, o.op ≠ .defer c
  back : ∀ e ∈ o.after.toList, e.on < i
  one : ∀ j o', ops[j]? = some o' → o.dst.getD 1000000 = o'.dst.getD 1000000 → i = j
  reads : ∀ t ∈ readsOf ops.toArray o, ∀ j o', ops[j]? = some o' → o'.dst.getD 1000000 = t → (j < i ∧ bindsOn o j = true) ∨ (i < j ∧ bindsOn o' i = true)

theorem drawOK_facts {ops : List Oper} (h : drawOK ops = true) {i : Nat} {o : Oper} (hi : ops[i]? = some o) : DrawFacts ops i o := by
  have hil := (List.getElem?_eq_some_iff.1 hi).1
  have h1 := all_range h hil
  simp only [hi] at h1
  cases hd : o.dst with
  | none => rw [hd] at h1; cases h1
  | some d =>
    rw [hd] at h1
    simp only [Bool.and_eq_true] at h1
    obtain ⟨⟨h2, h3⟩, h4⟩ := h1
    have h5 : ∀ j o', ops[j]? = some o' → ∃ d', o'.dst = some d' ∧ ((Nat.beq i j || !Nat.beq d d') && ((readsOf ops.toArray o).all fun t => !Nat.beq d' t || ((Nat.ble (j + 1) i && bindsOn o j) || (Nat.ble (i + 1) j && bindsOn o' i)))) = true := by
      intro j o' hj
      have := all_range h4 (List.getElem?_eq_some_iff.1 hj).1
      simp only [hj] at this
      cases hd' : o'.dst with
      | none => rw [hd'] at this; cases this
      | some d' => rw [hd'] at this; exact ⟨d', rfl, this⟩
    refine ⟨⟨d, hd⟩, fun c e => (by rw [e] at h2; cases h2), fun e he => Nat.le_of_ble_eq_true (List.all_eq_true.1 h3 e he), fun j o' hj e => ?_, fun t ht j o' hj e => ?_⟩
    · obtain ⟨d', e1, e2⟩ := h5 j o' hj
      rw [hd, e1] at e
      simp only [Option.getD_some] at e
      simp only [Bool.and_eq_true, Bool.or_eq_true] at e2
      rcases e2.1 with e3 | e3
      · exact Nat.eq_of_beq_eq_true e3
      · rw [e] at e3; simp at e3
    · obtain ⟨d', e1, e2⟩ := h5 j o' hj
      rw [e1] at e
      simp only [Option.getD_some] at e
      simp only [Bool.and_eq_true] at e2
      have := List.all_eq_true.1 e2.2 t ht
      simp only [e, Bool.or_eq_true, Bool.and_eq_true] at this
      rcases this with h6 | h6 | h6
      · simp at h6
      · exact .inl ⟨Nat.le_of_ble_eq_true h6.1, h6.2⟩
      · exact .inr ⟨Nat.le_of_ble_eq_true h6.1, h6.2⟩

theorem mem_ready {ops : List Oper} {listed : Array Bool} {i : Nat} : i ∈ Region.ready .any ops.toArray listed ↔ ∃ o, ops[i]? = some o ∧ listed.getD i true = false ∧ ∀ e ∈ o.after.toList, Region.binds .any e = true → listed.getD e.on false = true := by
  simp only [Region.ready, List.mem_filter, List.mem_range, List.size_toArray, List.getElem?_toArray, Bool.and_eq_true, Bool.not_eq_true']
  constructor
  · rintro ⟨h1, h2, h3⟩
    cases ho : ops[i]? with
    | none => rw [ho] at h3; cases h3
    | some o =>
      rw [ho] at h3
      refine ⟨o, rfl, h2, fun e he hb => ?_⟩
      simp only [Option.map_some, Option.getD_some] at h3
      have := Array.all_eq_true_iff_forall_mem.1 h3 e (by simpa using he)
      simpa [hb] using this
  · rintro ⟨o, ho, h2, h3⟩
    refine ⟨(List.getElem?_eq_some_iff.1 ho).1, h2, ?_⟩
    rw [ho]
    simp only [Option.map_some, Option.getD_some]
    refine Array.all_eq_true_iff_forall_mem.2 fun e he => ?_
    cases hb : Region.binds .any e with
    | false => rfl
    | true => simpa using h3 e (by simpa using he) hb

theorem binds_mem {o : Oper} {j : Nat} (h : bindsOn o j = true) : ∃ e ∈ o.after.toList, Region.binds .any e = true ∧ e.on = j := by
  unfold bindsOn at h
  rw [← Array.any_toList, List.any_eq_true] at h
  obtain ⟨e, h1, h2⟩ := h
  simp only [Bool.and_eq_true] at h2
  exact ⟨e, h1, h2.1, Nat.eq_of_beq_eq_true h2.2⟩

theorem step_wp {all : Array Oper} {F : Nat → Prop} {G : Gh} {a : Act} {w : World} {env : Env} {i : Nat} {o : Oper} {p : PV} {d : Nat} {Q' : Exit → Act → World → Prop} {K : Act → World → Prop} (hs : Sim n m F G env σ a w) (hi : all[i]? = some o) (hd : o.dst = some d) (hdn : d < n)
    (hnd : ∀ c, o.op ≠ .defer c) {env1 : Env} (hw : ∀ t, look env1 t = .dead ∨ look env1 t = look env t) (hst : StepAt P n m all env1 σ o p) (hK : ∀ v, Sim n m F G ((d, p) :: env) σ (a.put (some d) v) w → K (a.put (some d) v) w) :
    wpOpIn (Wd l) 0 P all Q' i K a w := by
  have hs1 : Sim n m F G env1 σ a w := hs.weaken fun t => by rcases hw t with e | e <;> rw [e] <;> first | exact .inl rfl | exact .inr (.inl rfl)
  unfold Go.wpOpIn
  simp only [hi]
  have run : ∀ (hl : LookAt P n m env1 σ o p), Oper.wpIn (Wd l) 0 P o a w K Q' := by
    intro hl
    obtain ⟨v, h1, h2, h3⟩ := hl.go F G a w hs1
    refine upon_value hnd h1 ?_
    rw [hd]
    exact hK v (hs.setN hdn h2 h3)
  have yl : ∀ {j t : Nat} {b : Bool}, (all[j]?).bind (·.dst) = some t → look env1 t = .bool b → yielded all a.tmps j = some b := fun hj hb => yielded_of hs1 hj hb
  cases hst with
  | free hg h => rw [if_pos (by simp [Region.wanted, hg])]; exact run h
  | yes hg hj hb hw' h => rw [if_pos (by simp [Region.wanted, hg, yl hj hb, hw'])]; exact run h
  | no hg hj hb hw' =>
    rw [if_neg (by simp [Region.wanted, hg, yl hj hb, hw'])]
    refine ⟨fun _ _ => trivial, ?_⟩
    rw [hd]
    exact hK undef (hs.setDead undef hdn)

theorem any_look {ops : List Oper} {ps : List PV} {env : Env} (hok : drawOK ops = true) (hst : DrawSteps P n m ops.toArray σ env ops ps) {Q' : Exit → Act → World → Prop} {F : Nat → Prop} {G : Gh} {w : World}
    (hQ : ∀ a, Sim n m F G (drawEnv env ops ps) σ a w → Q' .normal a w) : ∀ (fuel : Nat) (listed : Array Bool) (a : Act) (env' : Env), listed.size = ops.length → ((List.range ops.length).filter fun i => !listed.getD i true).length ≤ fuel →
      Sim n m F G env' σ a w → (∀ i (o : Oper), ops[i]? = some o → listed.getD i true = true → look env' (o.dst.getD 1000000) = (ps[i]?).getD .dead) →
      (∀ t, (∀ i (o : Oper), ops[i]? = some o → listed.getD i true = true → o.dst.getD 1000000 ≠ t) → look env' t = look env t) →
      (∀ i o, ops[i]? = some o → listed.getD i true = true → ∀ e ∈ o.after.toList, Region.binds .any e = true → listed.getD e.on true = true) →
      wpAnyIn (Wd l) 0 P .any ops.toArray Q' fuel listed a w := by
  obtain ⟨hpl, hget⟩ := drawSteps_get ops ps env hst
  have getD_eq : ∀ (listed : Array Bool) (i : Nat), listed.size = ops.length → i < ops.length → listed.getD i false = listed.getD i true := fun listed i h1 h2 => by
    simp [Array.getD_eq_getD_getElem?, h1, h2]
  have done : ∀ (listed : Array Bool), listed.size = ops.length → Region.ready .any ops.toArray listed = [] → ∀ i, i < ops.length → listed.getD i true = true := by
    intro listed hsz hr i
    induction i using Nat.strongRecOn with
    | _ i ih =>
      intro hi
      cases hl : listed.getD i true with
      | true => rfl
      | false =>
        have ho : ops[i]? = some ops[i] := by simp [hi]
        have hf := drawOK_facts hok ho
        have : i ∈ Region.ready .any ops.toArray listed := mem_ready.2 ⟨_, ho, hl, fun e he hb => by
          have := hf.back e he
          rw [getD_eq listed _ hsz (by omega)]; exact ih _ this (by omega)⟩
        rw [hr] at this; cases this
  have fin : ∀ (listed : Array Bool) (a : Act) (env' : Env), listed.size = ops.length → Region.ready .any ops.toArray listed = [] → Sim n m F G env' σ a w →
      (∀ i (o : Oper), ops[i]? = some o → listed.getD i true = true → look env' (o.dst.getD 1000000) = (ps[i]?).getD .dead) →
      (∀ t, (∀ i (o : Oper), ops[i]? = some o → listed.getD i true = true → o.dst.getD 1000000 ≠ t) → look env' t = look env t) → Q' .normal a w := by
    intro listed a env' hsz hr hs h1 h2
    have hall := done listed hsz hr
    refine hQ a (hs.weaken fun t => .inr (.inl ?_))
    obtain ⟨k1, k2⟩ := look_drawEnv ops ps env t hpl
    by_cases hex : ∃ (i : Nat) (o : Oper), ops[i]? = some o ∧ o.dst.getD 1000000 = t
    · obtain ⟨i, o, hi, ht⟩ := hex
      have hf := drawOK_facts hok hi
      rw [k2 i o hi ht fun j o' hj e => (hf.one j o' hj (ht.trans e.symm)).symm, ← ht]
      exact (h1 i o hi (hall i (List.getElem?_eq_some_iff.1 hi).1)).symm
    · rw [k1 fun i o hi e => hex ⟨i, o, hi, e⟩]
      exact (h2 t fun i o hi _ e => hex ⟨i, o, hi, e⟩).symm
  intro fuel
  induction fuel with
  | zero =>
    intro listed a env' hsz hfu hs h1 h2 h3
    have hr : Region.ready .any ops.toArray listed = [] := by
      cases hrr : Region.ready .any ops.toArray listed with
      | nil => rfl
      | cons i r =>
        have hm : i ∈ Region.ready .any ops.toArray listed := by rw [hrr]; exact List.mem_cons_self
        obtain ⟨o, ho, hl, _⟩ := mem_ready.1 hm
        have : i ∈ (List.range ops.length).filter fun i => !listed.getD i true := List.mem_filter.2 ⟨List.mem_range.2 (List.getElem?_eq_some_iff.1 ho).1, by simp [hl]⟩
        rw [List.length_eq_zero_iff.1 (Nat.le_zero.1 hfu)] at this; cases this
    exact ⟨hr, fin listed a env' hsz hr hs h1 h2⟩
  | succ fuel ih =>
    intro listed a env' hsz hfu hs h1 h2 h3
    refine ⟨fun hr => fin listed a env' hsz hr hs h1 h2, fun i hi => ?_⟩
    obtain ⟨o, ho, hl, hrdy⟩ := mem_ready.1 hi
    have hil := (List.getElem?_eq_some_iff.1 ho).1
    obtain ⟨d, p, e1, e2, e3, e4⟩ := hget i o ho
    have hf := drawOK_facts hok ho
    have hd0 : o.dst.getD 1000000 = d := by rw [e1]; rfl
    have hsame : ∀ t ∈ readsOf ops.toArray o, look (drawEnv env (ops.take i) (ps.take i)) t = look env' t := by
      intro t ht
      obtain ⟨k1, k2⟩ := look_drawEnv (ops.take i) (ps.take i) env t (by simp [hpl])
      have htk : ∀ j o', (ops.take i)[j]? = some o' → j < i ∧ ops[j]? = some o' := fun j o' hj => by
        rw [List.getElem?_take] at hj
        split at hj
        · exact ⟨by assumption, hj⟩
        · cases hj
      by_cases hex : ∃ (j : Nat) (o' : Oper), ops[j]? = some o' ∧ o'.dst.getD 1000000 = t
      · obtain ⟨j, o', hj, hjt⟩ := hex
        have hfj := drawOK_facts hok hj
        rcases hf.reads t ht j o' hj hjt with ⟨hlt, hb⟩ | ⟨hlt, hb⟩
        · obtain ⟨e, he, hbi, hon⟩ := binds_mem hb
          have hlj := hrdy e he hbi
          rw [hon, getD_eq listed j hsz (by omega)] at hlj
          rw [k2 j o' (by rw [List.getElem?_take, if_pos hlt]; exact hj) hjt fun j' o'' hj' e' => (hfj.one j' o'' (htk j' o'' hj').2 (hjt.trans e'.symm)).symm, ← hjt, h1 j o' hj hlj, List.getElem?_take, if_pos hlt]
        · obtain ⟨e, he, hbi, hon⟩ := binds_mem hb
          have hlj : listed.getD j true = false := by
            cases hlj : listed.getD j true with
            | false => rfl
            | true => have := h3 j o' hj hlj e he hbi; rw [hon, hl] at this; cases this
          rw [k1 fun j' o'' hj' e' => by
            have h4 := htk j' o'' hj'
            have := hfj.one j' o'' h4.2 (hjt.trans e'.symm)
            omega]
          exact (h2 t fun j' o'' hj' hl' e' => by
            have := hfj.one j' o'' hj' (hjt.trans e'.symm)
            subst this
            rw [hlj] at hl'; cases hl').symm
      · rw [k1 fun j o' hj e => hex ⟨j, o', (htk j o' hj).2, e⟩]
        exact (h2 t fun j o' hj _ e => hex ⟨j, o', hj, e⟩).symm
    refine step_wp (l := l) hs (by simpa using ho) e1 e2 hf.nd (env1 := restr (drawEnv env (ops.take i) (ps.take i)) (readsOf ops.toArray o)) (fun t => ?_) e4 fun v hs' => ?_
    · rcases look_restr (drawEnv env (ops.take i) (ps.take i)) t (readsOf ops.toArray o) with ⟨q1, q2⟩ | q
      · exact .inr (q2.trans (hsame t q1))
      · exact .inl q
    · have hsetD : ∀ j, (listed.setIfInBounds i true).getD j true = if j = i then true else listed.getD j true := by
        intro j
        simp only [Array.getD_eq_getD_getElem?, Array.getElem?_setIfInBounds]
        by_cases e : j = i
        · subst e; simp [hsz, hil]
        · simp [e, Ne.symm e]
      refine ih (listed.setIfInBounds i true) _ ((d, p) :: env') (by simpa using hsz) ?_ hs' (fun j o' hj hl' => ?_) (fun t ht => ?_) (fun j o' hj hl' e he hb => ?_)
      · have hsub : ((List.range ops.length).filter fun j => !(listed.setIfInBounds i true).getD j true) = (((List.range ops.length).filter fun j => !listed.getD j true).filter fun j => !(listed.setIfInBounds i true).getD j true) := by
          rw [List.filter_filter]
          congr 1
          funext j
          rw [hsetD]
          by_cases e : j = i
          · simp [e]
          · simp [e]
        rw [hsub]
        have := List.length_filter_lt_length_iff_exists (p := fun j => !(listed.setIfInBounds i true).getD j true) (l := (List.range ops.length).filter fun j => !listed.getD j true)
        have h5 := this.2 ⟨i, List.mem_filter.2 ⟨List.mem_range.2 hil, by simp [hl]⟩, by rw [hsetD]; simp⟩
        omega
      · rw [look_cons]
        by_cases e : j = i
        · subst e; rw [ho] at hj; cases hj; rw [hd0, if_pos rfl, e3]; rfl
        · rw [if_neg fun e' => e ((hf.one j o' hj (hd0.trans e'.symm)).symm)]
          rw [hsetD, if_neg e] at hl'
          exact h1 j o' hj hl'
      · rw [look_cons, if_neg fun e => ht i o ho (by rw [hsetD, if_pos rfl]) (hd0.trans e.symm)]
        exact h2 t fun j o' hj hl' => ht j o' hj (by rw [hsetD]; split <;> first | rfl | exact hl')
      · rw [hsetD]
        split
        · rfl
        · by_cases e' : j = i
          · subst e'; rw [ho] at hj; cases hj
            have := hrdy e he hb
            rw [getD_eq listed _ hsz (by have := hf.back e he; omega)] at this
            exact this
          · rw [hsetD, if_neg e'] at hl'; exact h3 j o' hj hl' e he hb

/-- A region that draws its order, of operations that only look. -/
theorem sat_draw {id : Nat} {ops : List Oper} {env : Env} (ps : List PV) (hm : P.follows .mixedOrders = true) (hok : drawOK ops = true) (hst : DrawSteps P n m ops.toArray σ env ops ps)
    (h : Q .normal (drawEnv env ops ps) σ) : Sat P l n m (.region id ops.toArray true) env σ Q := by
  refine ⟨fun F G a w hs => ?_⟩
  refine wpIn_region_any hm ?_
  have hs' := hs.drew
  refine any_look hok hst (fun a' hs2 => ⟨G, _, σ, h, hs2, Evol.drew hs⟩) _ _ a env (by simp) (by have := List.length_filter_le (fun i => !(Array.replicate ops.length false).getD i true) (List.range ops.length); simpa only [List.length_range, List.size_toArray] using this) hs' (fun i o hi hl => ?_) (fun t _ => rfl) (fun i o hi hl => ?_)
  · have := (List.getElem?_eq_some_iff.1 hi).1
    simp [Array.getD_eq_getD_getElem?, this] at hl
  · have := (List.getElem?_eq_some_iff.1 hi).1
    simp [Array.getD_eq_getD_getElem?, this] at hl

end
end Go.Proofs.Ytflgoabdgibphaa.Pv
