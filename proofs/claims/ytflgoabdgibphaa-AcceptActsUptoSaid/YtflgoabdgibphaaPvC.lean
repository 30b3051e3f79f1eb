/- Triples over plain values: what a piece of code makes of an environment and a store. -/
import Derived.Test.YtflgoabdgibphaaPvB
namespace Go.Proofs.Ytflgoabdgibphaa.Pv
open Go
set_option linter.unusedVariables false
set_option linter.unusedSimpArgs false

def Wd (l : Option Nat) : Fence := { Fence.wide with round := l }

theorem Wd_room (l : Option Nat) (k : Nat) : (Wd l).room k := fun _ h => by simp [Wd, Fence.wide] at h
theorem Wd_none : Wd none = Fence.wide := rfl

abbrev Post := Exit → Env → Sto → Prop

def PostA (n m : Nat) (F : Nat → Prop) (G : Gh) (w : World) (Q : Post) : Exit → Act → World → Prop := fun e a' w' =>
  ∃ G' env' σ', Q e env' σ' ∧ Sim n m F G' env' σ' a' w' ∧ Evol m F G w G' w'

structure Sat (P : Program) (l : Option Nat) (n m : Nat) (c : Code) (env : Env) (σ : Sto) (Q : Post) : Prop where
  go : ∀ F G a w, Sim n m F G env σ a w → c.wpIn (Wd l) 0 P (PostA n m F G w Q) a w

structure SatOps (P : Program) (l : Option Nat) (n m : Nat) (all : Array Oper) (ops : List Oper) (env : Env) (σ : Sto) (Q : Post) : Prop where
  go : ∀ F G a w, Sim n m F G env σ a w → wpListIn (Wd l) 0 P all (PostA n m F G w Q) ops a w

theorem PostA.evol {n m : Nat} {F : Nat → Prop} {G G' : Gh} {w w' : World} {Q : Post} (hv : Evol m F G w G' w') {e : Exit} {a : Act} {w'' : World} (h : PostA n m F G' w' Q e a w'') : PostA n m F G w Q e a w'' :=
  let ⟨G2, env2, σ2, q, s, v⟩ := h; ⟨G2, env2, σ2, q, s, hv.trans v⟩

theorem PostA.mono {n m : Nat} {F : Nat → Prop} {G : Gh} {w : World} {Q Q' : Post} (hq : ∀ e env σ, Q e env σ → Q' e env σ) {e : Exit} {a : Act} {w'' : World} (h : PostA n m F G w Q e a w'') : PostA n m F G w Q' e a w'' :=
  let ⟨G2, env2, σ2, q, s, v⟩ := h; ⟨G2, env2, σ2, hq _ _ _ q, s, v⟩

section
variable {P : Program} {l : Option Nat} {n m : Nat} {env : Env} {σ : Sto} {Q : Post}

theorem Sat.mono {c : Code} {Q' : Post} (h : Sat P l n m c env σ Q) (hq : ∀ e env σ, Q e env σ → Q' e env σ) : Sat P l n m c env σ Q' :=
  ⟨fun F G a w hs => wpIn_mono (h.go F G a w hs) fun _ _ _ q => q.mono hq⟩

/-- What comes behind: N where the code ends at its end, Q where it leaves otherwise. -/
def andThen0 (N : Env → Sto → Prop) (Q : Post) : Post
  | .normal, env, σ => N env σ
  | e, env, σ => Q e env σ

theorem andThen0_ex (N : Env → Sto → Prop) (Q : Post) {e : Exit} (h : e ≠ .normal) (env : Env) (σ : Sto) : andThen0 N Q e env σ = Q e env σ := by cases e <;> first | rfl | exact absurd rfl h

theorem sat_seq0 {x y : Code} (h : Sat P l n m x env σ (andThen0 (fun env' σ' => Sat P l n m y env' σ' Q) Q)) : Sat P l n m (.seq x y) env σ Q := by
  refine ⟨fun F G a w hs => ?_⟩
  refine wpIn_seq (wpIn_mono (h.go F G a w hs) fun e a' w' q => ?_)
  cases e with
  | normal =>
    obtain ⟨G', env', σ', hq, hs', hv⟩ := q
    exact wpIn_mono (hq.go F G' a' w' hs') fun _ _ _ q => q.evol hv
  | _ => exact q

theorem sat_skip (h : Q .normal env σ) : Sat P l n m .skip env σ Q := ⟨fun F G _ w hs => wpIn_skip ⟨G, env, σ, h, hs, .refl _ _ _ _⟩⟩
theorem sat_label {k : Nat} (h : Q .normal env σ) : Sat P l n m (.label k) env σ Q := ⟨fun F G _ w hs => wpIn_label ⟨G, env, σ, h, hs, .refl _ _ _ _⟩⟩
theorem sat_ret (h : Q .ret env σ) : Sat P l n m .ret env σ Q := ⟨fun F G _ w hs => wpIn_ret ⟨G, env, σ, h, hs, .refl _ _ _ _⟩⟩
theorem sat_exit {k : Nat} (h : Q (.exit k) env σ) : Sat P l n m (.exit k) env σ Q := ⟨fun F G _ w hs => wpIn_exit ⟨G, env, σ, h, hs, .refl _ _ _ _⟩⟩
theorem sat_goto {k : Nat} (h : Q (.goto k) env σ) : Sat P l n m (.goto k) env σ Q := ⟨fun F G _ w hs => wpIn_goto ⟨G, env, σ, h, hs, .refl _ _ _ _⟩⟩

theorem sat_cond {t : Nat} {x y : Code} {b : Bool} (hb : look env t = .bool b) (hx : b = true → Sat P l n m x env σ Q) (hy : b = false → Sat P l n m y env σ Q) :
    Sat P l n m (.cond (.tmp t) x y) env σ Q := by
  refine ⟨fun F G a w hs => ?_⟩
  have he : a.eval (.tmp t) = .bool b := by
    have h := hs.rep t
    rw [hb] at h
    exact (h.toS rfl).bool
  refine wpIn_cond_split he (fun h => (hx h).go F G a w hs) (fun h => (hy h).go F G a w hs)

/-- A labelled block: an exit by its name ends it. -/
def inBlk0 (k : Nat) (Q : Post) : Post
  | .exit k', env, σ => if k' = k then Q .normal env σ else Q (.exit k') env σ
  | e, env, σ => Q e env σ

theorem sat_block0 {k : Nat} {c : Code} (h : Sat P l n m c env σ (inBlk0 k Q)) : Sat P l n m (.block k c) env σ Q := by
  refine ⟨fun F G a w hs => ?_⟩
  refine wpIn_block (wpIn_mono (h.go F G a w hs) fun e a' w' q => ?_)
  cases e with
  | exit k' =>
    obtain ⟨G', env', σ', hq, hs', hv⟩ := q
    simp only [inBlk0] at hq
    simp only [Exit.inBlock]
    split
    · rename_i e; rw [if_pos e] at hq; exact ⟨G', env', σ', hq, hs', hv⟩
    · rename_i e; rw [if_neg e] at hq; exact ⟨G', env', σ', hq, hs', hv⟩
  | _ => exact q

theorem least_ex {p : Nat → Prop} (h : ∃ k, p k) : ∃ k, p k ∧ ∀ j, p j → k ≤ j := by
  obtain ⟨k, hk⟩ := h
  induction k using Nat.strongRecOn with
  | _ k ih =>
    by_cases h : ∃ j, j < k ∧ p j
    · obtain ⟨j, hj, hp⟩ := h; exact ih j hj hp
    · exact ⟨k, hk, fun j hj => Nat.le_of_not_lt fun hlt => h ⟨j, hlt, hj⟩⟩
open Classical in
noncomputable def leastOf (p : Nat → Prop) : Nat := if h : ∃ k, p k then (least_ex h).choose else 0
theorem leastOf_spec {p : Nat → Prop} (h : ∃ k, p k) : p (leastOf p) := by
  unfold leastOf; rw [dif_pos h]; exact (least_ex h).choose_spec.1
theorem leastOf_le {p : Nat → Prop} {k : Nat} (h : p k) : leastOf p ≤ k := by
  unfold leastOf; rw [dif_pos ⟨k, h⟩]; exact (least_ex ⟨k, h⟩).choose_spec.2 k h

/-- A loop, by an invariant that counts down. -/
theorem sat_loop0 {c : Code} (I : Nat → Env → Sto → Prop) (k : Nat) (h0 : I k env σ)
    (hr : ∀ k env σ, I k env σ → Sat P l n m c env σ (andThen0 (fun env' σ' => ∃ k', k' < k ∧ I k' env' σ') Q)) : Sat P l n m (.loop c) env σ Q := by
  refine ⟨fun F G a w hs => ?_⟩
  let J : Nat → Act → World → Prop := fun k a' w' => ∃ G' env' σ', I k env' σ' ∧ Sim n m F G' env' σ' a' w' ∧ Evol m F G w G' w'
  have hJ : J k a w := ⟨G, env, σ, h0, hs, .refl _ _ _ _⟩
  refine wpIn_loop (fun a' w' => ∃ k, J k a' w') (fun a' w' => leastOf fun k => J k a' w') ⟨k, hJ⟩ fun a' w' hI => ?_
  obtain ⟨G', env', σ', hi, hs', hv⟩ := leastOf_spec hI
  refine wpIn_mono ((hr _ _ _ hi).go F G' a' w' hs') fun e a'' w'' q => ?_
  cases e with
  | normal =>
    obtain ⟨G2, env2, σ2, ⟨k', hk', hi'⟩, hs2, hv2⟩ := q
    have hI' : ∃ k, J k a'' w'' := ⟨k', G2, env2, σ2, hi', hs2, hv.trans hv2⟩
    exact ⟨hI', Nat.lt_of_le_of_lt (leastOf_le (p := fun k => J k a'' w'') ⟨G2, env2, σ2, hi', hs2, hv.trans hv2⟩) hk'⟩
  | _ => exact PostA.evol hv q

/-- The same, behind names that are not looked through. -/
structure andThen (N : Env → Sto → Prop) (Q : Post) (e : Exit) (env : Env) (σ : Sto) : Prop where
  go : andThen0 N Q e env σ
structure inBlk (k : Nat) (Q : Post) (e : Exit) (env : Env) (σ : Sto) : Prop where
  go : inBlk0 k Q e env σ
theorem sat_seq {x y : Code} (h : Sat P l n m x env σ (andThen (fun env' σ' => Sat P l n m y env' σ' Q) Q)) : Sat P l n m (.seq x y) env σ Q := sat_seq0 (h.mono fun _ _ _ q => q.go)
theorem sat_block {k : Nat} {c : Code} (h : Sat P l n m c env σ (inBlk k Q)) : Sat P l n m (.block k c) env σ Q := sat_block0 (h.mono fun _ _ _ q => q.go)
theorem sat_loop {c : Code} (I : Nat → Env → Sto → Prop) (k : Nat) (h0 : I k env σ)
    (hr : ∀ k env σ, I k env σ → Sat P l n m c env σ (andThen (fun env' σ' => ∃ k', k' < k ∧ I k' env' σ') Q)) : Sat P l n m (.loop c) env σ Q := sat_loop0 I k h0 fun k env σ hi => (hr k env σ hi).mono fun _ _ _ q => q.go

/-- Weaker readings of a slot: nothing is known any more; what was one's own is shared. -/
theorem sat_weaken {c : Code} (env' : Env) (he : ∀ t, Wk (look env' t) (look env t)) (h : Sat P l n m c env' σ Q) : Sat P l n m c env σ Q :=
  ⟨fun F G a w hs => h.go F G a w (hs.weaken he)⟩

theorem sat_region {id : Nat} {ops : List Oper} (h : SatOps P l n m ops.toArray ops env σ Q) : Sat P l n m (.region id ops.toArray false) env σ Q :=
  ⟨fun F G a w hs => wpIn_region_lit (h.go F G a w hs)⟩

theorem ops_nil {all : Array Oper} (h : Q .normal env σ) : SatOps P l n m all [] env σ Q := ⟨fun F G _ w hs => wpListIn_nil ⟨G, env, σ, h, hs, .refl _ _ _ _⟩⟩

theorem ops_weaken {all : Array Oper} {ops : List Oper} (env' : Env) (he : ∀ t, Wk (look env' t) (look env t)) (h : SatOps P l n m all ops env' σ Q) : SatOps P l n m all ops env σ Q :=
  ⟨fun F G a w hs => h.go F G a w (hs.weaken he)⟩

end

/-- An operation's run and what becomes of it, in the form of the walk. -/
theorem upon_value {P : Program} {l : Option Nat} {o : Oper} {a : Act} {w w' : World} {v : Value} {next : Act → World → Prop} {Q : Exit → Act → World → Prop}
    (hd : ∀ c, o.op ≠ .defer c) (hr : (execOp a.eval o).run P w = .ok (.value v) w') (h : next (a.put o.dst v) w') : o.wpIn (Wd l) 0 P a w next Q := by
  refine ⟨fun _ _ => trivial, ?_⟩
  rw [show (Wd l).round = l from rfl, Oper.semAt_eq l _ o hd, hr]
  exact h

theorem upon_skip {P : Program} {l : Option Nat} {o : Oper} {a : Act} {w w' : World} {next : Act → World → Prop} {Q : Exit → Act → World → Prop}
    (hd : ∀ c, o.op ≠ .defer c) (hr : (execOp a.eval o).run P w = .ok .skip w') (h : next (a.put o.dst undef) w') : o.wpIn (Wd l) 0 P a w next Q := by
  refine ⟨fun _ _ => trivial, ?_⟩
  rw [show (Wd l).round = l from rfl, Oper.semAt_eq l _ o hd, hr]
  exact h

theorem list_run {P : Program} {l : Option Nat} {all : Array Oper} {Q : Exit → Act → World → Prop} {a : Act} {w : World} {o : Oper} {rest : List Oper}
    (hg : Region.wanted o (yielded all a.tmps) = true) (h : o.wpIn (Wd l) 0 P a w (wpListIn (Wd l) 0 P all Q rest) Q) : wpListIn (Wd l) 0 P all Q (o :: rest) a w := by
  simp only [wpListIn, hg, if_true]; exact h

theorem list_evol {P : Program} {l : Option Nat} {n m : Nat} {all : Array Oper} {F : Nat → Prop} {G G' : Gh} {w w' : World} {Q : Post} (hv : Evol m F G w G' w') : ∀ (rest : List Oper) (a : Act) (w1 : World),
    wpListIn (Wd l) 0 P all (PostA n m F G' w' Q) rest a w1 → wpListIn (Wd l) 0 P all (PostA n m F G w Q) rest a w1 := by
  intro rest
  induction rest with
  | nil => intro a w1 h; exact h.evol hv
  | cons o r ih =>
    intro a w1 h
    simp only [wpListIn] at h ⊢
    split
    · rename_i hw; rw [if_pos hw] at h
      refine ⟨h.1, ?_⟩
      have h := h.2
      generalize (o.semAt (Wd l).round a.eval).run P w1 = rr at h
      cases rr with
      | ok x w' =>
        cases x <;> simp only [Oper.uponIn] at h ⊢ <;>
          first
            | exact ih _ _ h
            | exact h
            | exact ⟨h.1, CallsIn.mono h.2 (fun e w'' he => by cases e <;> first | exact ih _ _ he | exact he.evol hv | (obtain ⟨a0, w0, h0⟩ := he; exact ⟨a0, w0, h0.evol hv⟩))⟩
            | exact ⟨h.1, RowsIn.mono h.2 (fun _ _ he => ih _ _ he)⟩
            | exact ⟨h.1, RoundIn.mono h.2 (fun e w'' he => by cases e <;> first | exact ih _ _ he | exact he.evol hv | (obtain ⟨a0, w0, h0⟩ := he; exact ⟨a0, w0, h0.evol hv⟩))⟩
      | halt x w' => cases x <;> simp only [Oper.uponIn] at h ⊢ <;> first | exact h | exact h.evol hv
    · rename_i hw; rw [if_neg hw] at h; exact ⟨h.1, ih _ _ h.2⟩

theorem op_gen {P : Program} {l : Option Nat} {n m : Nat} {all : Array Oper} {rest : List Oper} {o : Oper} {env : Env} {σ : Sto} {Q : Post} (hg : o.guard = none) (hnd : ∀ c, o.op ≠ .defer c)
    (h : ∀ F G a w, Sim n m F G env σ a w → ∃ v w' G' env' σ', ((execOp a.eval o).run P w = .ok (.value v) w' ∨ ((execOp a.eval o).run P w = .ok .skip w' ∧ v = undef)) ∧
      Sim n m F G' env' σ' (a.put o.dst v) w' ∧ Evol m F G w G' w' ∧ SatOps P l n m all rest env' σ' Q) : SatOps P l n m all (o :: rest) env σ Q := by
  refine ⟨fun F G a w hs => ?_⟩
  obtain ⟨v, w', G', env', σ', hr, hs', hv, hrest⟩ := h F G a w hs
  have hw : Region.wanted o (yielded all a.tmps) = true := by simp [Region.wanted, hg]
  have hn : wpListIn (Wd l) 0 P all (PostA n m F G w Q) rest (a.put o.dst v) w' := by
    exact list_evol hv rest _ _ (hrest.go F G' _ w' hs')
  rcases hr with hr | ⟨hr, rfl⟩
  · exact list_run hw (upon_value hnd hr hn)
  · exact list_run hw (upon_skip hnd hr hn)

end Go.Proofs.Ytflgoabdgibphaa.Pv
