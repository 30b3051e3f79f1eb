/- Boxes that are read and written. -/
import Derived.Test.YtflgoabdgibphaaPvI
namespace Go.Proofs.Ytflgoabdgibphaa.Pv
open Go
set_option linter.unusedVariables false
set_option linter.unusedSimpArgs false

theorem sc_other (b : Nat) : ∀ (vs : List Value) (o : Nat) (w : World) (x : Nat), x ≠ b → (w.setCells b o vs).heap[x]? = w.heap[x]?
  | [], _, _, _, _ => rfl
  | v :: r, o, w, x, h => by
    rw [World.setCells, sc_other b r (o + 1) _ x h]
    exact heap_setCell_other w ⟨b, o, none⟩ x v h
theorem sc_same (b : Nat) : ∀ (vs : List Value) (o : Nat) (w : World), (w.setCells b o vs).heap.size = w.heap.size ∧ (w.setCells b o vs).os = w.os ∧ (w.setCells b o vs).tape = w.tape ∧ (w.setCells b o vs).output = w.output
  | [], _, _ => ⟨rfl, rfl, rfl, rfl⟩
  | v :: r, o, w => by
    rw [World.setCells]
    obtain ⟨h1, h2, h3, h4⟩ := sc_same b r (o + 1) (w.setCell ⟨b, o, none⟩ v)
    exact ⟨h1.trans (World.size_setCell _ _ _), h2, h3, h4⟩
theorem sc_arr (b : Nat) : ∀ (vs : List Value) (o : Nat) (w : World) {arr : Array Value} {T : TypeId} {fz : Nat × Nat}, w.heap[b]? = some (.cells arr T fz) →
    ∃ arr', (w.setCells b o vs).heap[b]? = some (.cells arr' T fz) ∧ arr'.size = arr.size
  | [], _, _, arr, _, _, h => ⟨arr, h, rfl⟩
  | v :: r, o, w, arr, T, fz, h => by
    rw [World.setCells]
    have h1 : (w.setCell ⟨b, o, none⟩ v).heap[b]? = some (.cells (arr.setIfInBounds o v) T fz) := by
      simp [World.setCell, Array.getElem?_modify, h]
    obtain ⟨arr', h2, h3⟩ := sc_arr b r (o + 1) _ h1
    exact ⟨arr', h2, by simpa using h3⟩
theorem sc_spare {b lo hi : Nat} {w : World} (h : Spare w b lo hi) (x o : Nat) (vs : List Value) : Spare (w.setCells x o vs) b lo hi := by
  obtain ⟨arr, T, fz, h1, h2, h3⟩ := h
  by_cases e : b = x
  · subst e
    obtain ⟨arr', h4, h5⟩ := sc_arr b vs o w h1
    exact ⟨arr', T, fz, h4, by omega, fun j hj hk => by rw [World.frozen?_setCells]; exact h3 j hj hk⟩
  · exact ⟨arr, T, fz, (sc_other x vs o w b e).trans h1, h2, fun j hj hk => by rw [World.frozen?_setCells]; exact h3 j hj hk⟩

theorem sc_shape {b : Nat} {w : World} {k : Nat × Nat} (h : w.shape? b = some k) (x o : Nat) (vs : List Value) : (w.setCells x o vs).shape? b = some k := by
  by_cases e : b = x
  · subst e
    simp only [World.shape?] at h ⊢
    split at h
    · rename_i arr T fz h1
      obtain ⟨arr', h4, h5⟩ := sc_arr b vs o w h1
      rw [h4]; simp only [h5]; exact h
    · cases h
  · exact (shape_eq (sc_other x vs o w b e)).trans h
theorem sc_spareB {x : Bx} {hi : Nat} {w : World} (h : SpareB w x hi) (y o : Nat) (vs : List Value) : SpareB (w.setCells y o vs) x hi := ⟨sc_spare h.sp y o vs, sc_shape h.sh y o vs, fun hst j => by rw [World.frozen?_setCells]; exact h.nf hst j⟩

section
variable {n m : Nat} {F : Nat → Prop} {G : Gh} {env : Env} {σ : Sto} {a : Act} {w : World}

theorem K_box (h : Sim n m F G env σ a w) {i : Nat} {cs : List PV} (hi : σ[i]? = some (.cells cs)) : G.K (G.bs i) = .box i := (h.sto i _ hi).1

/-- A box's cells are written. -/
theorem Sim.boxSet (h : Sim n m F G env σ a w) {i : Nat} {cs cs' : List PV} (hi : σ[i]? = some (.cells cs)) {w' : World} (hsz : w'.heap.size = w.heap.size)
    (hother : ∀ b : Nat, b ≠ (G.bs i).b → w'.heap[b]? = w.heap[b]?) (hsp : SpareB w' (G.bs i) cs'.length) (hlt : ltAll σ.length cs')
    (hc : ∀ j c, cs'[j]? = some c → ∃ v, w'.cell? ⟨G.bs i, j, none⟩ = some v ∧ RepO G w v c)
    (hO : ∀ j v c b, w'.cell? ⟨G.bs i, j, none⟩ = some v → cs'[j]? = some c → ownB v c = some b → ¬ F b ∧ ∀ l, ownAt G env σ a.tmps w l = some b → l = .cell i j)
    (hI : ∀ j j' v c v' c' b, w'.cell? ⟨G.bs i, j, none⟩ = some v → cs'[j]? = some c → ownB v c = some b → w'.cell? ⟨G.bs i, j', none⟩ = some v' → cs'[j']? = some c' → ownB v' c' = some b → j = j') :
    Sim n m F G env (σ.set i (.cells cs')) a w' := by
  have hK := K_box h hi
  have hil : i < σ.length := (List.getElem?_eq_some_iff.1 hi).1
  have hne : ∀ (b : Nat) k, G.K b = k → (∀ j, k ≠ .box j) → w'.heap[b]? = w.heap[b]? := fun b k hb hk => hother b fun e => hk i (by rw [← hb, e, hK])
  have hle : ImmLe G.K w G.K w' := fun b p hb => ⟨p, Nat.le_refl _, hb, fun j _ => cell_eq (hne b _ hb (by simp))⟩
  have hown : ∀ v p b, RepO G w v p → ownB v p = some b → w'.heap[b]? = w.heap[b]? := by
    intro v p b hr hb
    cases hr with
    | dead => rw [ownB_dead] at hb; cases hb
    | sh hr => rw [ownB_sh hr] at hb; cases hb
    | ow av cap sz es hr ho =>
      cases av with
      | none => simp [ownB] at hb
      | some ad =>
        simp only [ownB] at hb
        split at hb
        · rename_i hl
          obtain ⟨ad', e, _, h3, h4⟩ := ho hl
          cases e; cases hb; exact hne _ _ h3 (by simp)
        · cases hb
    | ex0 av sz => cases av <;> simp [ownB] at hb
    | ex b' cap sz es vs hK' hc h0 hsp hsz hv hr => simp only [ownB, h0, if_true] at hb; cases hb; exact hne _ _ hK' (by simp)
  have hmono : ∀ v p, RepO G w v p → p.lt σ.length → RepO G w' v p := fun v p hr hl => hr.mono hle (fun _ _ => rfl) hl fun b hb => ⟨hown v p b hr hb, rfl⟩
  have hget : ∀ k e, (σ.set i (Ent.cells cs'))[k]? = some e → (k = i ∧ e = .cells cs') ∨ (k ≠ i ∧ σ[k]? = some e) := by
    intro k e hk
    by_cases e' : k = i
    · subst e'; rw [List.getElem?_set_self hil] at hk; cases hk; exact .inl ⟨rfl, rfl⟩
    · rw [List.getElem?_set_ne (Ne.symm e')] at hk; exact .inr ⟨e', hk⟩
  have hbs : ∀ k cs2, k ≠ i → σ[k]? = some (.cells cs2) → w'.heap[(G.bs k).b]? = w.heap[(G.bs k).b]? := fun k cs2 hk hs => hother _ fun e => hk (by
    have h1 := (h.sto k _ hs).1
    rw [e, hK] at h1; cases h1; rfl)
  have key : ∀ l b, ownAt G env (σ.set i (.cells cs')) a.tmps w' l = some b → (ownAt G env σ a.tmps w l = some b ∧ ∀ j, l ≠ .cell i j) ∨
      ∃ j v c, l = .cell i j ∧ w'.cell? ⟨G.bs i, j, none⟩ = some v ∧ cs'[j]? = some c ∧ ownB v c = some b := by
    intro l b hl
    cases l with
    | slot t j => exact .inl ⟨hl, fun j' e => by cases e⟩
    | cell k j =>
      simp only [ownAt] at hl
      cases hk : (σ.set i (Ent.cells cs'))[k]? with
      | none => rw [hk] at hl; cases hl
      | some e =>
        rw [hk] at hl
        rcases hget k e hk with ⟨rfl, rfl⟩ | ⟨hki, hs⟩
        · simp only at hl
          split at hl
          · rename_i c v hc' hv; exact .inr ⟨j, v, c, rfl, hv, hc', hl⟩
          · cases hl
        · refine .inl ⟨?_, fun j' e => by cases e; exact hki rfl⟩
          cases e with
          | cells cs2 =>
            simp only [ownAt, hs]
            rw [cell_eq (hbs k cs2 hki hs)] at hl
            exact hl
          | _ => cases hl
  refine ⟨h.size, fun t => (h.rep t).mono hle (fun _ _ => rfl) (h.envlt t) fun j b hb => ⟨?_, rfl⟩, fun t => by rw [List.length_set]; exact h.envlt t, fun k e hk => ?_, fun k e hk => ?_, fun b hb => by rw [hsz]; exact h.kfree b hb, fun k e hk hc' => ?_, fun l1 l2 b g1 g2 => ?_, fun l b hl => ?_, fun b hb => by rw [hsz]; exact h.frlt b hb, ?_, h.markF, by rw [List.length_set]; exact h.floor⟩
  · have hr := h.rep t
    revert hr hb
    generalize a.tmps.getD t undef = v
    generalize look env t = p
    intro hb hr
    cases hr with
    | one hr =>
      refine hown v p b hr ?_
      unfold ownSlot at hb
      split at hb
      · cases hr with | sh hr => exact hr.notup.elim
      · split at hb
        · exact hb
        · cases hb
    | tup vs ps hl hr =>
      simp only [ownSlot] at hb
      split at hb
      · rename_i v' p' hv hp; exact hown _ _ _ (hr j _ _ hv hp) hb
      · cases hb
  · rcases hget k e hk with ⟨rfl, rfl⟩ | ⟨hki, hs⟩
    · refine ⟨hK, hsp, fun j c hc' => ?_⟩
      obtain ⟨v, hv, hr⟩ := hc j c hc'
      exact ⟨v, hv, hmono v c hr (ltAll_iff.1 hlt c (List.mem_of_getElem? hc'))⟩
    · have h2 := h.sto k e hs
      cases e with
      | cells cs2 =>
        obtain ⟨g1, g2, g3⟩ := h2
        have hb := hbs k cs2 hki hs
        refine ⟨g1, g2.mono hb, fun j c hc' => ?_⟩
        obtain ⟨v, hv, hr⟩ := g3 j c hc'
        refine ⟨v, (cell_eq hb).trans hv, hmono v c hr ?_⟩
        have := h.stolt k _ hs
        simp only [Ent.lt] at this
        exact ltAll_iff.1 this c (List.mem_of_getElem? hc')
      | gone => trivial
      | loop x y z u =>
        obtain ⟨g1, g2, g3⟩ := h2
        refine ⟨g1, (hother _ fun e => hki ?_).trans g2, fun t => (g3 t).imp_right fun hr => hr.mono (n := σ.length) hle (fun _ _ => rfl) (h.stolt k _ hs t)⟩
        rw [e, hK] at g1; cases g1; rfl
  · rw [List.length_set]
    rcases hget k e hk with ⟨rfl, rfl⟩ | ⟨_, hs⟩
    · exact hlt
    · exact h.stolt k e hs
  · rcases hget k e hk with ⟨rfl, rfl⟩ | ⟨_, hs⟩
    · exact h.inj k _ hi (.inl ⟨_, rfl⟩)
    · exact h.inj k e hs hc'
  · rcases key l1 b g1 with ⟨k1, n1⟩ | ⟨j, v, c, rfl, hv, hc', hb⟩ <;> rcases key l2 b g2 with ⟨k2, n2⟩ | ⟨j', v', c', rfl, hv', hc'', hb'⟩
    · exact h.uniq l1 l2 b k1 k2
    · exact absurd ((hO j' v' c' b hv' hc'' hb').2 l1 k1) (n1 _)
    · exact absurd ((hO j v c b hv hc' hb).2 l2 k2) (n2 _)
    · rw [hI j j' v c v' c' b hv hc' hb hv' hc'' hb']
  · rcases key l b hl with ⟨k1, _⟩ | ⟨j, v, c, rfl, hv, hc', hb⟩
    · exact h.fr l b k1
    · exact (hO j v c b hv hc' hb).1
  · refine h.marks.mono fun d hd b hb => ⟨?_, rfl⟩
    have hm := h.marks
    have : G.K b = .keep := by
      revert hm hd
      generalize a.defers = l
      intro hd hm
      induction l with
      | nil => cases hd
      | cons d' r ih =>
        obtain ⟨⟨b', e1, e2, _, _⟩, hm'⟩ := hm
        cases hd with
        | head => subst e1; cases hb; exact e2
        | tail _ hd => exact ih hd hm'
    exact hne b _ this (by simp)

theorem Evol.boxSet (h : Sim n m F G env σ a w) {i : Nat} {cs : List PV} (hi : σ[i]? = some (.cells cs)) (o : Nat) (vs : List Value) : Evol m F G w G (w.setCells (G.bs i) o vs) := by
  obtain ⟨h1, h2, h3, h4⟩ := sc_same (G.bs i) vs o w
  refine ⟨h2, h3, h4, by omega, fun b hb => ⟨sc_other _ _ _ _ _ fun e => h.inj i _ hi (.inl ⟨_, rfl⟩) (e ▸ hb), rfl⟩, fun b p hb => ⟨p, Nat.le_refl _, hb, fun j _ => cell_eq (sc_other _ _ _ _ _ fun e => ?_)⟩, fun _ _ => rfl⟩
  rw [e, K_box h hi] at hb; cases hb

end

/-- Cells written over others, from a place on. -/
def putAt : List PV → Nat → List PV → List PV
  | l, _, [] => l
  | [], _, _ => []
  | c :: r, k + 1, xs => c :: putAt r k xs
  | _ :: r, 0, x :: xs => x :: putAt r 0 xs

theorem putAt_get : ∀ (l : List PV) (o : Nat) (xs : List PV), o + xs.length ≤ l.length → (putAt l o xs).length = l.length ∧ ∀ j, (putAt l o xs)[j]? = if o ≤ j ∧ j < o + xs.length then xs[j - o]? else l[j]?
  | l, o, [], _ => ⟨by cases l <;> cases o <;> rfl, fun j => by rw [if_neg (by simp only [List.length_nil]; omega)]; cases l <;> cases o <;> rfl⟩
  | [], o, x :: xs, h => by simp at h
  | c :: r, k + 1, x :: xs, h => by
    simp only [List.length_cons] at h
    obtain ⟨h1, h2⟩ := putAt_get r k (x :: xs) (by simp only [List.length_cons]; omega)
    refine ⟨by simp [putAt, h1], fun j => ?_⟩
    cases j with
    | zero => simp [putAt]
    | succ j =>
      simp only [putAt, List.getElem?_cons_succ, h2, List.length_cons]
      by_cases e : k ≤ j ∧ j < k + (xs.length + 1)
      · rw [if_pos e, if_pos (by omega), show j + 1 - (k + 1) = j - k by omega]
      · rw [if_neg e, if_neg (by omega)]
  | c :: r, 0, x :: xs, h => by
    simp only [List.length_cons] at h
    obtain ⟨h1, h2⟩ := putAt_get r 0 xs (by omega)
    refine ⟨by simp [putAt, h1], fun j => ?_⟩
    cases j with
    | zero => simp [putAt]
    | succ j =>
      simp only [putAt, List.getElem?_cons_succ, h2, List.length_cons]
      by_cases e : 0 ≤ j ∧ j < 0 + xs.length
      · rw [if_pos e, if_pos (by omega)]; simp
      · rw [if_neg e, if_neg (by omega)]

def PV.one : PV → Bool
  | .agg _ | .tup _ | .dead => false
  | _ => true

theorem RepO.one {G : Gh} {w : World} {v : Value} {p : PV} (h : RepO G w v p) (hp : p.one = true) : v.oneCell' = true ∧ p.cells = [p] ∧ v.cells = #[v] := by
  cases h with
  | dead => cases hp
  | sh h => cases h with
    | pl h => cases h <;> first | exact ⟨rfl, rfl, rfl⟩ | (cases hp; done)
    | agg => cases hp
    | _ => exact ⟨rfl, rfl, rfl⟩
  | _ => exact ⟨rfl, rfl, rfl⟩

section
variable {P : Program} {l : Option Nat} {tt : TT} {n m : Nat} {all : Array Oper} {rest : List Oper} {env : Env} {σ : Sto} {Q : Post} {d : Nat} {ty : TypeId} {pos : String} {after : Array Edge}

/-- A box is read; what it has of its own stays its own. -/
def loadB (i : TI) (cs : List PV) (off : Nat) : Option (Prop × PV) :=
  match aggD i.desc with
  | true => match (((cs.drop off).take i.size).map shr1).all PV.isS with
    | true => some (off + i.size ≤ cs.length, .agg (((cs.drop off).take i.size).map shr1))
    | false => none
  | false => match cs.drop off with
    | c :: _ => match (shr1 c).isS with
      | true => some (True, shr1 c)
      | false => none
    | [] => none

theorem op_loadB (ht : TabOK P tt) {t : TypeId} {x : Operand} {i off : Nat} {ti : TI} {cs : List PV} {c : Prop} {p : PV} (hx : opv tt env t x = .ptr i off) (hti : tl tt t = some ti)
    (hi : σ[i]? = some (.cells cs)) (hl : loadB ti cs off = some (c, p)) (hc : c) (hd : d < n) (h : SatOps P l n m all rest ((d, p) :: env) σ Q) :
    SatOps P l n m all (⟨some d, .load t x, ty, pos, after, none⟩ :: rest) env σ Q := by
  refine op_gen rfl (by simp) fun F G a w hs => ?_
  have hxo := opv_ok hs tt t x
  rw [hx] at hxo
  have ev := (hxo.toS rfl).ptrv
  obtain ⟨hK, hsp, hcell⟩ := hs.sto i _ hi
  have hst := hs.stolt i _ hi
  simp only [Ent.lt] at hst
  have hT := ht _ _ hti
  unfold loadB at hl
  split at hl
  · rename_i hd'
    split at hl
    · rename_i hall
      cases hl
      have hv : ∀ j, ∃ v, j < ti.size → w.cell? ⟨G.bs i, off + j, none⟩ = some v ∧ ∀ c, ((cs.drop off).take ti.size)[j]? = some c → RepS G w v (shr1 c) := by
        intro j
        by_cases hj : j < ti.size
        · have hlt : off + j < cs.length := by omega
          obtain ⟨v, h1, h2⟩ := hcell (off + j) cs[off + j] (by simp [hlt])
          refine ⟨v, fun _ => ⟨h1, fun c hc' => ?_⟩⟩
          have hc2 : c = cs[off + j] := by
            rw [List.getElem?_take, if_pos hj, List.getElem?_drop] at hc'
            simpa [hlt] using hc'.symm
          subst hc2
          rcases h2.shr1 with e | e
          · exfalso
            have := List.all_eq_true.1 hall (shr1 cs[off + j]) (List.mem_map.2 ⟨_, List.mem_of_getElem? hc', rfl⟩)
            rw [e] at this; cases this
          · exact e
        · exact ⟨undef, fun h => absurd h hj⟩
      obtain ⟨vs, hvs⟩ := Classical.axiomOfChoice hv
      have hrun := run_loadCells (P := P) w ⟨G.bs i, off, none⟩ ti.size vs (fun j hj => by rw [add_eq rfl]; exact (hvs j hj).1)
      refine ⟨.agg ((List.range ti.size).map vs).toArray, w, G, _, σ, .inl ?_, hs.setS hd (.agg _ _ ?_ fun j v c h1 h2 => ?_) ?_, .refl _ _ _ _, h⟩
      · simp [execOp, ev, Instr.loadAt, Instr.sureAddr, loadVar, hT.ragg w, hd', hT.rsize w, hrun]
      · simp; omega
      · rw [List.getElem?_map, Option.map_eq_some_iff] at h2
        obtain ⟨c', h2, rfl⟩ := h2
        have hj : j < ti.size := by
          have := (List.getElem?_eq_some_iff.1 h2).1
          simp at this; omega
        simp [hj] at h1
        subst h1
        exact (hvs j hj).2 c' h2
      · simp only [PV.lt]; rw [ltAll_iff]; intro v hv'
        obtain ⟨c', h2, rfl⟩ := List.mem_map.1 hv'
        exact shr1_lt (ltAll_iff.1 hst c' (List.mem_of_mem_drop (List.mem_of_mem_take h2)))
    · cases hl
  · rename_i hd'
    split at hl
    · rename_i c0 r hcs
      split at hl
      · rename_i hS
        cases hl
        have h0 : cs[off]? = some c0 := by have := List.getElem?_drop (xs := cs) (i := off) (j := 0); rw [hcs] at this; simpa using this.symm
        obtain ⟨v, h1, h2⟩ := hcell off c0 h0
        refine ⟨v, w, G, _, σ, .inl (by simp [execOp, ev, Instr.loadAt, Instr.sureAddr, loadVar, hT.ragg w, hd', run_load, h1]), hs.setS hd ?_ (shr1_lt (ltAll_iff.1 hst c0 (List.mem_of_getElem? h0))), .refl _ _ _ _, h⟩
        rcases h2.shr1 with e | e
        · rw [e] at hS; cases hS
        · exact e
      · cases hl
    · cases hl

theorem ownAt_cell {G : Gh} {a : Act} {w : World} {i j : Nat} {cs : List PV} {c : PV} {v : Value} {b : Nat} (hi : σ[i]? = some (.cells cs)) (hc : cs[j]? = some c) (hv : w.cell? ⟨G.bs i, j, none⟩ = some v) (hb : ownB v c = some b) :
    ownAt G env σ a.tmps w (.cell i j) = some b := by simp [ownAt, hi, hc, hv, hb]

/-- A box is written. -/
theorem op_storeB (ht : TabOK P tt) {t : TypeId} {x y : Operand} {i off : Nat} {ti : TI} {cs : List PV} {p : PV} (hx : opv tt env t x = .ptr i off) (hti : tl tt t = some ti)
    (hi : σ[i]? = some (.cells cs)) (hy : opv tt env t y = p) (hS : p.isS = true) (hn : p.cells.length = ti.size) (h1 : p.cells.all PV.one = true) (hoff : off + ti.size ≤ cs.length)
    (h : SatOps P l n m all rest env (σ.set i (.cells (putAt cs off p.cells))) Q) : SatOps P l n m all (⟨none, .store t x y, ty, pos, after, none⟩ :: rest) env σ Q := by
  refine op_gen rfl (by simp) fun F G a w hs => ?_
  have hxo := opv_ok hs tt t x
  rw [hx] at hxo
  have ev := (hxo.toS rfl).ptrv
  have hyo := opv_ok hs tt t y
  have hyl := opv_lt hs tt t y
  rw [hy] at hyo hyl
  obtain ⟨k1, k2⟩ := cells_of_S (hyo.toS hS)
  obtain ⟨hK, hsp, hcell⟩ := hs.sto i _ hi
  have hst := hs.stolt i _ hi
  simp only [Ent.lt] at hst
  have hT := ht _ _ hti
  have hspB := hsp
  obtain ⟨⟨arr, T, fz, a1, a2, a3⟩, hshB, hnfB⟩ := hsp
  have hlen : (a.eval y).cells.toList.length = ti.size := by simp [k1, hn]
  have hthere : ∀ j, j < cs.length → (w.cell? ⟨G.bs i, j, none⟩).isSome = true := fun j hj => by
    obtain ⟨v, hv, _⟩ := hcell j cs[j] (by simp [hj])
    rw [hv]; rfl
  have hrun := run_storeCells_cells (P := P) (G.bs i) off (a.eval y).cells.toList 0 w (fun j hj => by rw [Nat.add_zero]; exact hthere _ (by omega)) (fun j hj => by rw [Nat.add_zero]; exact a3 _ (Nat.zero_le _) (by omega)) (fun v hv => by
    obtain ⟨j, hj, rfl⟩ := List.getElem_of_mem hv
    have hj' : j < p.cells.length := by simp at hj; omega
    have := k2 j (a.eval y).cells.toList[j] p.cells[j] (by simp at hj ⊢) (by simp [hj'])
    exact (RepO.one (.sh this) (List.all_eq_true.1 h1 _ (List.getElem_mem hj'))).1)
  rw [Nat.add_zero] at hrun
  obtain ⟨q1, q2⟩ := putAt_get cs off p.cells (by omega)
  have hnew : ∀ j c, (putAt cs off p.cells)[j]? = some c → ∃ v, (w.setCells (G.bs i) off (a.eval y).cells.toList).cell? ⟨G.bs i, j, none⟩ = some v ∧ RepO G w v c ∧ ((off ≤ j ∧ j < off + ti.size ∧ ownB v c = none) ∨ (cs[j]? = some c ∧ w.cell? ⟨G.bs i, j, none⟩ = some v)) := by
    intro j c hc
    rw [q2] at hc
    split at hc
    · rename_i hj
      rw [hn] at hj
      have hjl : j - off < (a.eval y).cells.toList.length := by omega
      have := World.cell?_setCells_in (G.bs i) (a.eval y).cells.toList off w (fun j hj => hthere _ (by omega)) (j - off) hjl
      rw [show off + (j - off) = j by omega] at this
      have hR := k2 (j - off) (a.eval y).cells.toList[j - off] c (by rw [Array.getElem_toList]; exact Array.getElem?_eq_getElem _) hc
      exact ⟨_, this, .sh hR, .inl ⟨hj.1, hj.2, ownB_sh hR⟩⟩
    · rename_i hj
      rw [hn] at hj
      obtain ⟨v, hv, hR⟩ := hcell j c hc
      exact ⟨v, by rw [World.cell?_setCells_out _ _ _ _ _ (fun _ _ => by simp only; omega)]; exact hv, hR, .inr ⟨hc, hv⟩⟩
  obtain ⟨s1, s2, s3, s4⟩ := sc_same (G.bs i) (a.eval y).cells.toList off w
  have hfin := hs.boxSet (cs' := putAt cs off p.cells) hi s1 (fun b hb => sc_other _ _ _ _ _ hb) (sc_spareB ⟨⟨arr, T, fz, a1, by rw [q1]; exact a2, fun j hj hk => a3 j hj (by omega)⟩, hshB, hnfB⟩ _ _ _) (by
      rw [ltAll_iff]; intro c hc
      obtain ⟨j, hj, rfl⟩ := List.getElem_of_mem hc
      have hc' := q2 j
      rw [List.getElem?_eq_getElem hj] at hc'
      split at hc'
      · exact ltAll_iff.1 (cells_lt hyl) _ (List.mem_of_getElem? hc'.symm)
      · exact ltAll_iff.1 hst _ (List.mem_of_getElem? hc'.symm)) (fun j c hc => let ⟨v, h1, h2, _⟩ := hnew j c hc; ⟨v, h1, h2⟩) (fun j v c b hv hc hb => by
      obtain ⟨v', h1, _, h3⟩ := hnew j c hc
      rw [hv] at h1; cases h1
      rcases h3 with ⟨_, _, h3⟩ | ⟨h3, h4⟩
      · rw [h3] at hb; cases hb
      · have := ownAt_cell (env := env) (a := a) hi h3 h4 hb
        exact ⟨hs.fr _ b this, fun l' hl' => hs.uniq _ _ b hl' this⟩) (fun j j' v c v' c' b hv hc hb hv' hc' hb' => by
      obtain ⟨u, h1, _, h3⟩ := hnew j c hc
      obtain ⟨u', h1', _, h3'⟩ := hnew j' c' hc'
      rw [hv] at h1; cases h1
      rw [hv'] at h1'; cases h1'
      rcases h3 with ⟨_, _, h3⟩ | ⟨h3, h4⟩
      · rw [h3] at hb; cases hb
      · rcases h3' with ⟨_, _, h3'⟩ | ⟨h3', h4'⟩
        · rw [h3'] at hb'; cases hb'
        · have := hs.uniq _ _ b (ownAt_cell (env := env) (a := a) hi h3 h4 hb) (ownAt_cell (env := env) (a := a) hi h3' h4' hb')
          cases this; rfl)
  refine ⟨undef, _, G, env, _, .inr ⟨?_, rfl⟩, hfin, Evol.boxSet hs hi off _, h⟩
  have hsize : (a.eval y).cells.size = ti.size := by omega
  simp [execOp, ev, Instr.storeAt, Instr.sureAddr, storeVar, hT.rsize w, hsize, hrun]

end
end Go.Proofs.Ytflgoabdgibphaa.Pv
