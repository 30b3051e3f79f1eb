/- New blocks, boxes, variables that are taken over. -/
import Derived.Test.YtflgoabdgibphaaPvG
import Derived.Laws.IdiomCopy
import Derived.Laws.MakeOwn
namespace Go.Proofs.Ytflgoabdgibphaa.Pv
open Go
set_option linter.unusedVariables false
set_option linter.unusedSimpArgs false

def upd {α : Type} (f : Nat → α) (b : Nat) (k : α) : Nat → α := fun x => if x = b then k else f x
theorem upd_same {α : Type} (f : Nat → α) (b : Nat) (k : α) : upd f b k b = k := by simp [upd]
theorem upd_ne {α : Type} (f : Nat → α) {b x : Nat} (k : α) (h : x ≠ b) : upd f b k x = f x := by simp [upd, h]

section
variable {n m : Nat} {F : Nat → Prop} {G : Gh} {env : Env} {σ : Sto} {a : Act} {w : World}

theorem K_new (h : Sim n m F G env σ a w) : G.K w.heap.size = .free := by
  cases hk : G.K w.heap.size with
  | free => rfl
  | _ => exact absurd (h.kfree w.heap.size (by rw [hk]; simp)) (Nat.lt_irrefl _)

theorem ImmLe.alloc (h : Sim n m F G env σ a w) (o : Obj) (k : Kind) : ImmLe G.K w (upd G.K w.heap.size k) (w.alloc o) := by
  intro b p hb
  have hlt : b < w.heap.size := h.kfree b (by rw [hb]; simp)
  exact ⟨p, Nat.le_refl _, by rw [upd_ne _ _ (by omega)]; exact hb, fun j _ => World.cell?_alloc_lt w o ⟨b, j, none⟩ hlt⟩

theorem heap_alloc_lt (w : World) (o : Obj) {b : Nat} (h : b < w.heap.size) : (w.alloc o).heap[b]? = w.heap[b]? := heap_alloc_old w o b h

/-- A new block that is nobody's variable. -/
theorem Sim.alloc (h : Sim n m F G env σ a w) (o : Obj) (k : Kind) : Sim n m F ⟨upd G.K w.heap.size k, G.bs⟩ env σ a (w.alloc o) := by
  refine h.world (ImmLe.alloc h o k) (fun _ _ => rfl) (by simp) (fun b hb => ⟨heap_alloc_lt w o hb, upd_ne _ _ (by omega)⟩) fun b hb hk => ?_
  by_cases e : b = w.heap.size
  · subst e; simp
  · simp only [upd_ne _ _ e] at hk; exact absurd (h.kfree b hk) (by omega)

theorem Evol.alloc (h : Sim n m F G env σ a w) (o : Obj) (k : Kind) (bs' : Nat → Bx) (hb : ∀ i, i < m → bs' i = G.bs i) : Evol m F G w ⟨upd G.K w.heap.size k, bs'⟩ (w.alloc o) :=
  ⟨rfl, rfl, rfl, by simp, fun b hb => ⟨heap_alloc_lt w o (h.frlt b hb), upd_ne _ _ (by have := h.frlt b hb; omega)⟩, ImmLe.alloc h o k, hb⟩

theorem Evol.drew (h : Sim n m F G env σ a w) : Evol m F G w G w.drew := ⟨rfl, rfl, rfl, Nat.le_refl _, fun _ _ => ⟨rfl, rfl⟩, fun _ p h => ⟨p, Nat.le_refl _, h, fun _ _ => rfl⟩, fun _ _ => rfl⟩
theorem Sim.drew (h : Sim n m F G env σ a w) : Sim n m F G env σ a w.drew :=
  h.world (fun _ p h => ⟨p, Nat.le_refl _, h, fun _ _ => rfl⟩) (fun _ _ => rfl) (Nat.le_refl _) (fun _ _ => ⟨rfl, rfl⟩) (fun b hb hk => absurd (h.kfree b hk) (by omega))

theorem ownB_lt {v : Value} {p : PV} {b : Nat} (hr : RepO G w v p) (hb : ownB v p = some b) : b < w.heap.size := by
  cases hr with
  | dead => rw [ownB_dead] at hb; cases hb
  | sh hr => rw [ownB_sh hr] at hb; cases hb
  | ow a cap sz es hr ho =>
    cases a with
    | none => simp [ownB] at hb
    | some ad =>
      simp only [ownB] at hb
      split at hb
      · rename_i hlt
        obtain ⟨ad', e, _, _, h4⟩ := ho hlt
        cases e; cases hb; exact h4.lt
      · cases hb
  | ex0 a sz => cases a <;> simp [ownB] at hb
  | ex b' cap sz es vs hK hc h0 hsp hsz hv hr => simp only [ownB, h0, if_true] at hb; cases hb; exact hsp.lt

/-- What is owed of the owners among the cells of a new box. -/
def CellsFree (G : Gh) (F : Nat → Prop) (env : Env) (σ : Sto) (a : Act) (w : World) (arr : Array Value) (cs : List PV) : Prop :=
  (∀ (j : Nat) v c b, arr[j]? = some v → cs[j]? = some c → ownB v c = some b → ¬ F b ∧ ∀ l, ownAt G env σ a.tmps w l ≠ some b) ∧
  ∀ (j j' : Nat) v c v' c' b, arr[j]? = some v → cs[j]? = some c → ownB v c = some b → arr[j']? = some v' → cs[j']? = some c' → ownB v' c' = some b → j = j'

/-- A new box. -/
theorem Sim.box (h : Sim n m F G env σ a w) (arr : Array Value) (T : TypeId) (cs : List PV) (hl : cs.length ≤ arr.size) (hlt : ltAll σ.length cs)
    (hr : ∀ (j : Nat) v c, arr[j]? = some v → cs[j]? = some c → RepO G w v c) (hO : CellsFree G F env σ a w arr cs) (st : Bool := false) :
    Sim n m F ⟨upd G.K w.heap.size (.box σ.length), upd G.bs σ.length ⟨w.heap.size, (T, arr.size), st⟩⟩ env (σ ++ [.cells cs]) a (w.alloc (.cells arr T)) := by
  have h1 := h.alloc (.cells arr T) (.box σ.length)
  have hle := ImmLe.alloc h (.cells arr T) (.box σ.length)
  have hbs : ∀ i, i < σ.length → upd G.bs σ.length ⟨w.heap.size, (T, arr.size), st⟩ i = G.bs i := fun i hi => upd_ne _ _ (by omega)
  have hcell : ∀ j, (w.alloc (.cells arr T)).cell? ⟨w.heap.size, j, none⟩ = arr[j]? := fun j => World.cell?_alloc_new w arr T j
  have hsame : ∀ b, b < w.heap.size → (w.alloc (.cells arr T)).heap[b]? = w.heap[b]? ∧ upd G.K w.heap.size (.box σ.length) b = G.K b := fun b hb => ⟨heap_alloc_lt _ _ hb, upd_ne _ _ (by omega)⟩
  have hnew : ∀ (j : Nat) v c, arr[j]? = some v → cs[j]? = some c → RepO ⟨upd G.K w.heap.size (.box σ.length), upd G.bs σ.length ⟨w.heap.size, (T, arr.size), st⟩⟩ (w.alloc (.cells arr T)) v c := by
    intro j v c hv hc
    exact (hr j v c hv hc).mono hle hbs (ltAll_iff.1 hlt c (List.mem_of_getElem? hc)) fun b hb => hsame b (ownB_lt (hr j v c hv hc) hb)
  have lt1 : ∀ {p : PV} {k : Nat}, p.lt k → p.lt (k + 1) := by
    intro p k hp
    have key : ∀ p : PV, p.lt k → p.lt (k + 1) := by
      intro p
      refine PV.rec (motive_1 := fun p => p.lt k → p.lt (k + 1)) (motive_2 := fun l => ltAll k l → ltAll (k + 1) l) ?_ ?_ ?_ ?_ ?_ ?_ ?_ ?_ ?_ ?_ ?_ ?_ ?_ ?_ ?_ ?_ ?_ ?_ ?_ ?_ ?_ p <;>
        first
          | (intros; trivial)
          | (intro _ ih h; exact ih h)
          | (intro i off h; simp only [PV.lt] at *; omega)
          | (intro i h; simp only [PV.lt] at *; omega)
          | (intro i off sz len cap h; simp only [PV.lt] at *; omega)
          | (intro i off sz len cap h; simp only [PV.lt] at *; exact h.imp_right fun h => by omega)
          | (intro _ _ _ ih1 ih2 h; exact ⟨ih1 h.1, ih2 h.2⟩)
          | (intro _ _ ih1 ih2 h; exact ⟨ih1 h.1, ih2 h.2⟩)
    exact key p hp
  have ltA : ∀ {l : List PV} {k : Nat}, ltAll k l → ltAll (k + 1) l := fun h => ltAll_iff.2 fun v hv => lt1 (ltAll_iff.1 h v hv)
  have hget : ∀ i e, (σ ++ [Ent.cells cs])[i]? = some e → (i < σ.length ∧ σ[i]? = some e) ∨ (i = σ.length ∧ e = .cells cs) := by
    intro i e hi
    by_cases hlt : i < σ.length
    · rw [List.getElem?_append_left hlt] at hi; exact .inl ⟨hlt, hi⟩
    · rw [List.getElem?_append_right (by omega)] at hi
      cases hk : i - σ.length with
      | zero => rw [hk] at hi; simp at hi; exact .inr ⟨by omega, hi.symm⟩
      | succ k => rw [hk] at hi; simp at hi
  have key : ∀ l b, ownAt ⟨upd G.K w.heap.size (.box σ.length), upd G.bs σ.length ⟨w.heap.size, (T, arr.size), st⟩⟩ env (σ ++ [.cells cs]) a.tmps (w.alloc (.cells arr T)) l = some b →
      (ownAt ⟨upd G.K w.heap.size (.box σ.length), G.bs⟩ env σ a.tmps (w.alloc (.cells arr T)) l = some b ∧ ∀ j, l ≠ .cell σ.length j) ∨ ∃ j v c, l = .cell σ.length j ∧ arr[j]? = some v ∧ cs[j]? = some c ∧ ownB v c = some b := by
    intro l b hl
    cases l with
    | slot t j => exact .inl ⟨hl, fun j' e => by cases e⟩
    | cell i j =>
      simp only [ownAt] at hl
      cases hi : (σ ++ [Ent.cells cs])[i]? with
      | none => rw [hi] at hl; cases hl
      | some e =>
        rw [hi] at hl
        rcases hget i e hi with ⟨hlt', hi'⟩ | ⟨rfl, rfl⟩
        · refine .inl ⟨?_, fun j' e => by cases e; omega⟩
          simp only [ownAt, hi']
          rw [hbs i hlt'] at hl; exact hl
        · simp only [upd_same, hcell] at hl
          split at hl
          · rename_i c v hc hv; exact .inr ⟨j, v, c, rfl, hv, hc, hl⟩
          · cases hl
  have oldown : ∀ l b, ownAt ⟨upd G.K w.heap.size (.box σ.length), G.bs⟩ env σ a.tmps (w.alloc (.cells arr T)) l = some b → ownAt G env σ a.tmps w l = some b := by
    intro l b hl
    cases l with
    | slot t j => exact hl
    | cell i j =>
      simp only [ownAt] at hl ⊢
      cases hi : σ[i]? with
      | none => rw [hi] at hl; cases hl
      | some e =>
        rw [hi] at hl
        cases e with
        | cells cs' =>
          have h2 := h.sto i _ hi
          have hb : G.bs i < w.heap.size := h.kfree _ (by rw [h2.1]; simp)
          have e1 : (w.alloc (.cells arr T)).cell? ⟨G.bs i, j, none⟩ = w.cell? ⟨G.bs i, j, none⟩ := World.cell?_alloc_lt w _ ⟨G.bs i, j, none⟩ hb
          simp only [e1] at hl
          exact hl
        | _ => exact hl
  refine ⟨h1.size, fun t => ?_, fun t => ?_, fun i e hi => ?_, fun i e hi => ?_, fun b hb => h1.kfree b hb, fun i e hi hc => ?_, fun l1 l2 b g1 g2 => ?_, fun l b hl => ?_, h1.frlt, h1.marks, h1.markF, by simp; have := h.floor; omega⟩
  · exact (h1.rep t).mono (ImmLe.refl _ _) hbs (h.envlt t) (fun _ _ _ => ⟨rfl, rfl⟩)
  · rw [List.length_append]; exact lt1 (h.envlt t)
  · rcases hget i e hi with ⟨hlt', hi'⟩ | ⟨rfl, rfl⟩
    · have h2 := h1.sto i e hi'
      cases e with
      | cells cs' =>
        obtain ⟨g1, g2, g3⟩ := h2
        refine ⟨by simp only [hbs i hlt']; exact g1, by simp only [hbs i hlt']; exact g2, fun j c hc => ?_⟩
        obtain ⟨v, hv, hR⟩ := g3 j c hc
        refine ⟨v, by simp only [hbs i hlt']; exact hv, hR.mono (ImmLe.refl _ _) hbs ?_ (fun _ _ => ⟨rfl, rfl⟩)⟩
        have := h.stolt i _ hi'
        simp only [Ent.lt] at this
        exact ltAll_iff.1 this c (List.mem_of_getElem? hc)
      | gone => trivial
      | loop x y z u =>
        obtain ⟨g1, g2, g3⟩ := h2
        exact ⟨by simp only [hbs i hlt']; exact g1, by simp only [hbs i hlt']; exact g2, fun t => (g3 t).imp_right fun hr => hr.mono (ImmLe.refl _ _) hbs (h.stolt i _ hi' t)⟩
    · refine ⟨by simp only [upd_same], ⟨⟨arr, T, (0, 0), by simp only [upd_same]; exact heap_alloc_new w _, hl, fun j _ _ => by simp only [upd_same]; exact World.frozen?_alloc_new w arr T j⟩, by simp only [upd_same]; simp only [World.shape?, heap_alloc_new w], fun _ j => by simp only [upd_same]; exact World.frozen?_alloc_new w arr T j⟩, fun j c hc => ?_⟩
      have hj : j < arr.size := by have := (List.getElem?_eq_some_iff.1 hc).1; omega
      exact ⟨arr[j], by simp only [upd_same]; rw [hcell]; simp [hj], hnew j _ c (by simp [hj]) hc⟩
  · rw [List.length_append]
    rcases hget i e hi with ⟨_, hi'⟩ | ⟨rfl, rfl⟩
    · have := h.stolt i e hi'
      cases e with
      | cells cs' => exact ltA this
      | gone => trivial
      | loop x y z u => exact fun t => lt1 (this t)
    · exact ltA hlt
  · rcases hget i e hi with ⟨hlt', hi'⟩ | ⟨rfl, rfl⟩
    · simp only [hbs i hlt']; exact h1.inj i e hi' hc
    · simp only [upd_same]; intro hF; exact absurd (h.frlt _ hF) (Nat.lt_irrefl _)
  · rcases key l1 b g1 with ⟨k1, n1⟩ | ⟨j, v, c, rfl, hv, hc, hb⟩ <;> rcases key l2 b g2 with ⟨k2, n2⟩ | ⟨j', v', c', rfl, hv', hc', hb'⟩
    · exact h1.uniq l1 l2 b k1 k2
    · exact absurd (oldown _ _ k1) ((hO.1 j' v' c' b hv' hc' hb').2 l1)
    · exact absurd (oldown _ _ k2) ((hO.1 j v c b hv hc hb).2 l2)
    · rw [hO.2 j j' v c v' c' b hv hc hb hv' hc' hb']
  · rcases key l b hl with ⟨k1, _⟩ | ⟨j, v, c, rfl, hv, hc, hb⟩
    · exact h1.fr l b k1
    · exact (hO.1 j v c b hv hc hb).1

theorem CellsFree.of_sh {arr : Array Value} {cs : List PV} (h : ∀ (j : Nat) v c, arr[j]? = some v → cs[j]? = some c → ownB v c = none) : CellsFree G F env σ a w arr cs :=
  ⟨fun j v c b hv hc hb => (by rw [h j v c hv hc] at hb; cases hb), fun j j' v c v' c' b hv hc hb _ _ _ => (by rw [h j v c hv hc] at hb; cases hb)⟩

end
end Go.Proofs.Ytflgoabdgibphaa.Pv
