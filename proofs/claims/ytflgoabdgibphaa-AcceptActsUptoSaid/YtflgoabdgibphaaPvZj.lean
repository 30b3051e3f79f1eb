/- A contract of the library that leaves the heap below as it is, as a contract over plain values. -/
import Derived.Test.YtflgoabdgibphaaPvZi
namespace Go.Proofs.Ytflgoabdgibphaa.Pv
open Go
set_option linter.unusedVariables false
set_option linter.unusedSimpArgs false

theorem satCall_pure {P : Program} {f : FuncId} {ps : List PV} {σ : Sto} {p : PV}
    (h : ∀ (G : Gh) (w : World) (vs : Array Value), vs.size = ps.length → (∀ (j : Nat) v q, vs[j]? = some v → ps[j]? = some q → Rep G w v q) → (∀ b, G.K b ≠ .free → b < w.heap.size) →
      ∃ v, (Calls P f vs w fun e w' => e = .returned v ∧ RowKit.Below w.heap.size w w') ∧ RepP G.K w v p) : SatCall P f ps σ fun x σ' => x = p ∧ σ' = σ := by
  intro F G w vs hl hs
  obtain ⟨v, hc, hr⟩ := h G w vs hl (fun j v q hv hq => by
    have := hs.rep j
    rw [look_argFrom, if_pos (Nat.zero_le _), Nat.sub_zero, hq] at this
    have hj := (Array.getElem?_eq_some_iff.1 hv)
    obtain ⟨hj1, hj2⟩ := hj
    simpa [Array.getD_eq_getD_getElem?, hv] using this) hs.kfree
  refine CallsIn.mono (F := Wd none) (callsIn_wide.2 hc) fun e w' he => ?_
  obtain ⟨rfl, hb⟩ := he
  have hle : ImmLe G.K w G.K w' := fun b q hq => ⟨q, Nat.le_refl _, hq, fun j _ => cell_eq (hb.block b (hs.kfree b (by rw [hq]; simp)))⟩
  have h1 : Sim vs.size σ.length F G (argEnv ps) σ ⟨vs, []⟩ w' := hs.world hle (fun _ _ => rfl) hb.size (fun b hlt => ⟨hb.block b hlt, rfl⟩) (fun b hlt hf => absurd (hs.kfree b hf) (by omega))
  have hr' : RepP G.K w' v p := hr.mono hle
  have hslot : ∀ t j b, ownSlot ((#[v] : Array Value).getD t undef) (look [(0, p)] t) j ≠ some b := by
    intro t j b hb'
    by_cases ht : t = 0
    · subst ht
      have : ownSlot v p j = some b := hb'
      rw [ownSlot_sh (.pl hr' : RepS G w' v p)] at this; cases this
    · have e : look [(0, p)] t = .dead := by rw [look_cons, if_neg ht]; rfl
      rw [e, ownSlot_dead] at hb'; cases hb'
  have hown : ∀ l b, ownAt G [(0, p)] σ #[v] w' l = some b → ∃ i j, l = .cell i j ∧ ownAt G (argEnv ps) σ vs w' l = some b := by
    intro l b hl'
    cases l with
    | slot t j => exact absurd hl' (hslot t j b)
    | cell i j => exact ⟨i, j, rfl, hl'⟩
  refine ⟨v, p, σ, G, rfl, ⟨rfl, rfl⟩, ⟨rfl, fun t => ?_, fun t => ?_, h1.sto, h1.stolt, h1.kfree, h1.inj, fun l1 l2 b g1 g2 => ?_, fun l b hl' => ?_, h1.frlt, trivial, fun d hd => (by cases hd), Nat.le_refl _⟩,
    ⟨hb.os, hb.tape, hb.output, hb.size, fun b hF => ⟨hb.block b (hs.frlt b hF), rfl⟩, hle, fun _ _ => rfl⟩⟩
  · by_cases ht : t = 0
    · subst ht; exact .one (.sh (.pl hr'))
    · have e : look [(0, p)] t = .dead := by rw [look_cons, if_neg ht]; rfl
      rw [e]; exact .one (.dead _)
  · by_cases ht : t = 0
    · subst ht; exact hr.lt0 _
    · have e : look [(0, p)] t = .dead := by rw [look_cons, if_neg ht]; rfl
      rw [e]; trivial
  · obtain ⟨_, _, rfl, k1⟩ := hown l1 b g1
    obtain ⟨_, _, rfl, k2⟩ := hown l2 b g2
    exact h1.uniq _ _ b k1 k2
  · obtain ⟨_, _, rfl, k1⟩ := hown l b hl'
    exact h1.fr _ b k1

section
variable {P : Program} {l : Option Nat} {tt : TT} {n m : Nat} {all : Array Oper} {rest : List Oper} {env : Env} {σ : Sto} {Q : Post} {d : Nat} {ty : TypeId} {pos : String} {after : Array Edge}

/-- An append of a text's bytes. -/
theorem op_appendStrM (ht : TabOK P tt) {tb : Nat} {xo : Operand} {tS tX : TypeId} {o : Own} {xs : List Int} {s : ByteArray} {e : TI} (hb : look env tb = .sl o 1 (xs.map (PV.int .u8))) (ho : (PV.sl o 1 []).isOwn = true) (he : eti tt tS = some e) (hez : Nat.beq e.size 1 = true)
    {i : TI} (hX : tl tt tX = some i) (hXi : i.desc = .string) (hx : opv tt env tX xo = .str s) (hB : Nat.ble e.bytes 1 = true)
    (hfit : xs.length + s.size ≤ 70368744177664) (hd : Nat.ble (d + 1) n = true)
    (h : SatOps P l n m all rest ((d, .sl o 1 ((xs ++ bi s).map (PV.int .u8))) :: (tb, left1 (.sl o 1 (xs.map (PV.int .u8)))) :: env) σ Q) :
    SatOps P l n m all (⟨some d, .call ⟨.builtin .append, #[.tmp tb, xo], #[tS, tX]⟩, ty, pos, after, none⟩ :: rest) env σ Q := by
  refine op_appendStr ht hb (by cases o <;> first | exact ho | (cases ho; done)) he (Nat.eq_of_beq_eq_true hez) hX hXi hx ?_ (ltn hd) ?_
  · rw [List.length_map]
    have h1 := Nat.le_of_ble_eq_true hB
    exact Nat.le_trans (Nat.mul_le_mul hfit (Nat.succ_le_succ h1)) (by decide)
  · rw [bytesP_bi, ← List.map_append]; exact h
end

/-- What lies behind a store may be forgotten. -/
def DropOK (m : Nat) (env : Env) (σ ex : Sto) : Prop := ex = [] ∨ (m ≤ σ.length ∧ StoOK σ ∧ ∀ t, (look env t).lt σ.length)

theorem Sim.drop {n m : Nat} {F : Nat → Prop} {G : Gh} {env : Env} {σ ex : Sto} {a : Act} {w : World} (h : Sim n m F G env (σ ++ ex) a w) (hd : DropOK m env σ ex) : Sim n m F G env σ a w := by
  rcases hd with rfl | ⟨h1, h2, h3⟩
  · rw [List.append_nil] at h; exact h
  have hget : ∀ (i : Nat) e, σ[i]? = some e → (σ ++ ex)[i]? = some e := fun i e hi => by
    rw [List.getElem?_append_left (List.getElem?_eq_some_iff.1 hi).1]; exact hi
  have key : ∀ l b, ownAt G env σ a.tmps w l = some b → ownAt G env (σ ++ ex) a.tmps w l = some b := by
    intro l b hl
    cases l with
    | slot t j => exact hl
    | cell i j =>
      simp only [ownAt] at hl ⊢
      cases hi : σ[i]? with
      | none => rw [hi] at hl; cases hl
      | some e => rw [hi] at hl; rw [hget i e hi]; exact hl
  exact ⟨h.size, h.rep, h3, fun i e hi => h.sto i e (hget i e hi), h2, h.kfree, fun i e hi => h.inj i e (hget i e hi), fun l1 l2 b g1 g2 => h.uniq l1 l2 b (key _ _ g1) (key _ _ g2),
    fun l b hl => h.fr l b (key l b hl), h.frlt, h.marks, h.markF, h1⟩

section
variable {P : Program} {l : Option Nat} {n m : Nat} {env : Env} {σ : Sto} {Q : Post}

theorem sat_drop {c : Code} {ex : Sto} (hd : DropOK m env σ ex) (h : Sat P l n m c env σ Q) : Sat P l n m c env (σ ++ ex) Q := ⟨fun F G a w hs => h.go F G a w (hs.drop hd)⟩

/-- A loop whose rounds leave boxes behind that nobody holds. -/
theorem sat_loopD {α : Type} {c : Code} (E : α → Env) (S : α → Sto) (I : α → Prop) (μ : α → Nat) (x0 : α) (h0 : I x0) (hw : WkL (E x0) env) (hS : S x0 = σ)
    (hr : ∀ x, I x → Sat P l n m c (E x) (S x) (andThen (fun env' σ' => ∃ x', I x' ∧ μ x' < μ x ∧ WkL (E x') env' ∧ ∃ ex, σ' = S x' ++ ex ∧ DropOK m (E x') (S x') ex) Q)) : Sat P l n m (.loop c) env σ Q := by
  subst hS
  refine sat_env (E x0) hw (sat_loop (fun k e s => ∃ x, I x ∧ μ x = k ∧ (∀ t, Wk (look (E x) t) (look e t)) ∧ ∃ ex, s = S x ++ ex ∧ DropOK m (E x) (S x) ex) (μ x0) ⟨x0, h0, rfl, fun t => Wk.same _, [], (List.append_nil _).symm, .inl rfl⟩ ?_)
  rintro k e s ⟨x, hx, rfl, he, ex, rfl, hd⟩
  refine sat_weaken (E x) he (sat_drop hd ((hr x hx).mono fun e' env' σ' q => ?_))
  cases e' with
  | normal =>
    obtain ⟨x', h1, h2, h3, h4⟩ := q.go
    exact ⟨⟨μ x', h2, x', h1, rfl, h3.at, h4⟩⟩
  | _ => exact ⟨q.go⟩
end

theorem stoOK_push {σ : Sto} (h : StoOK σ) {e : Ent} (he : e.lt (σ.length + 1)) : StoOK (σ ++ [e]) := by
  intro i e' hi
  rw [List.length_append, List.length_singleton]
  by_cases hlt : i < σ.length
  · rw [List.getElem?_append_left hlt] at hi
    have h1 := h i e' hi
    cases e' with
    | cells cs => simp only [Ent.lt] at h1 ⊢; rw [ltAll_iff] at h1 ⊢; exact fun v hv => lt_mono (Nat.le_succ _) (h1 v hv)
    | gone => trivial
    | loop x y z u => exact fun t => lt_mono (Nat.le_succ _) (h1 t)
  · rw [List.getElem?_append_right (by omega)] at hi
    cases hj : i - σ.length with
    | zero => rw [hj] at hi; cases hi; exact he
    | succ k => rw [hj] at hi; simp at hi

theorem ltAll_map {α : Type} {f : α → PV} {k : Nat} (h : ∀ x, (f x).lt k) (xs : List α) : ltAll k (xs.map f) := by
  rw [ltAll_iff]; intro v hv; obtain ⟨x, _, rfl⟩ := List.mem_map.1 hv; exact h x

theorem envL_lt : ∀ {env : Env} {k : Nat}, (∀ x ∈ env, x.2.lt k) → ∀ t, (look env t).lt k
  | [], _, _, _ => trivial
  | (u, p) :: r, k, h, t => by
    rw [look_cons]
    split
    · exact h (u, p) List.mem_cons_self
    · exact envL_lt (fun x hx => h x (List.mem_cons_of_mem _ hx)) t

end Go.Proofs.Ytflgoabdgibphaa.Pv
