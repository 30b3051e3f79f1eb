/- Slices that are made, and that grow. -/
import Derived.Test.YtflgoabdgibphaaPvJ
import Derived.Laws.Append
import Derived.Lib.ConvBytes
namespace Go.Proofs.Ytflgoabdgibphaa.Pv
open Go
set_option linter.unusedVariables false
set_option linter.unusedSimpArgs false

section
variable {n m : Nat} {F : Nat → Prop} {G : Gh} {env : Env} {σ : Sto} {a : Act} {w : World}

/-- The world goes on: what somebody has for himself, the boxes and the marks lie as they lay. -/
theorem Sim.world2 (h : Sim n m F G env σ a w) {K' : Nat → Kind} {w' : World} (hle : ImmLe G.K w K' w') (hsz : w.heap.size ≤ w'.heap.size)
    (hown : ∀ l b, ownAt G env σ a.tmps w l = some b → w'.heap[b]? = w.heap[b]? ∧ K' b = G.K b)
    (hbox : ∀ b, (∃ i, G.K b = .box i) ∨ G.K b = .keep → w'.heap[b]? = w.heap[b]? ∧ K' b = G.K b)
    (hk : ∀ b, K' b ≠ .free → b < w'.heap.size) : Sim n m F ⟨K', G.bs⟩ env σ a w' := by
  have hcell : ∀ i cs, σ[i]? = some (.cells cs) → w'.heap[(G.bs i).b]? = w.heap[(G.bs i).b]? ∧ K' (G.bs i) = G.K (G.bs i) := fun i cs hi => hbox _ (.inl ⟨i, (h.sto i _ hi).1⟩)
  have key : ∀ l, ownAt ⟨K', G.bs⟩ env σ a.tmps w' l = ownAt G env σ a.tmps w l := by
    intro l
    cases l with
    | slot t j => rfl
    | cell i j =>
      simp only [ownAt]
      cases hi : σ[i]? with
      | none => rfl
      | some e => cases e with
        | cells cs => simp only [cell_eq (hcell i cs hi).1]
        | _ => rfl
  refine ⟨h.size, fun t => (h.rep t).mono hle (fun _ _ => rfl) (h.envlt t) fun j b hb => hown (.slot t j) b hb, h.envlt, fun i e hi => ?_, h.stolt, hk, h.inj, fun l1 l2 b h1 h2 => ?_, fun l b hl => ?_, fun b hb => Nat.lt_of_lt_of_le (h.frlt b hb) hsz, ?_, h.markF, h.floor⟩
  · have h1 := h.sto i e hi
    cases e with
    | cells cs =>
      obtain ⟨e1, e2⟩ := hcell i cs hi
      obtain ⟨h2, h3, h4⟩ := h1
      refine ⟨e2.trans h2, h3.mono e1, fun j c hc => ?_⟩
      obtain ⟨v, hv, hr⟩ := h4 j c hc
      refine ⟨v, (cell_eq e1).trans hv, hr.mono (n := σ.length) hle (fun _ _ => rfl) ?_ fun b hb => hown (.cell i j) b (ownAt_cell hi hc hv hb)⟩
      have := h.stolt i _ hi
      simp only [Ent.lt] at this
      exact ltAll_iff.1 this c (List.mem_of_getElem? hc)
    | gone => trivial
    | loop rdy pend r env0 =>
      obtain ⟨h2, h3, h4⟩ := h1
      have hb := hbox _ (.inl ⟨i, h2⟩)
      exact ⟨hb.2.trans h2, hb.1.trans h3, fun t => (h4 t).imp_right fun hr => hr.mono (n := σ.length) hle (fun _ _ => rfl) (h.stolt i _ hi t)⟩
  · rw [key] at h1 h2; exact h.uniq l1 l2 b h1 h2
  · rw [key] at hl; exact h.fr l b hl
  · refine h.marks.mono fun d hd b hb => ?_
    have hm := h.marks
    have : G.K b = .keep := by
      revert hm hd
      generalize a.defers = l
      intro hd hm
      induction l with
      | nil => cases hd
      | cons d' r ih =>
        obtain ⟨⟨b', e1, e2, _, _⟩, hm'⟩ := hm
        cases hd with
        | head => subst e1; cases hb; exact e2
        | tail _ hd => exact ih hd hm'
    exact hbox b (.inr this)

end

/-- Plain through and through. -/
def PV.pl : PV → Bool
  | .bool _ | .int _ _ | .str _ | .nilfn | .nilif | .nilptr | .nils _ | .sl .sh _ _ => true
  | .agg cs => plL cs
  | _ => false
where plL : List PV → Bool
  | [] => true
  | c :: r => c.pl && plL r

theorem plL_iff {l : List PV} : PV.pl.plL l = true ↔ ∀ c ∈ l, c.pl = true := by
  induction l with
  | nil => simp [PV.pl.plL]
  | cons c r ih => simp [PV.pl.plL, ih]

theorem RepS.plain {G : Gh} {w : World} {v : Value} {p : PV} (h : RepS G w v p) (hp : p.pl = true) : RepP G.K w v p := by
  induction h with
  | pl h => exact h
  | agg vs cs hl _ ih =>
    simp only [PV.pl] at hp
    exact .agg vs cs hl fun j v c h1 h2 => ih j v c h1 h2 (plL_iff.1 hp c (List.mem_of_getElem? h2))
  | _ => cases hp

theorem pl_isS {p : PV} (h : p.pl = true) : p.isS = true := by
  cases p with
  | sl o sz es => cases o <;> first | rfl | cases h
  | _ => first | rfl | cases h

theorem pl_lt {p : PV} (h : p.pl = true) (k : Nat) : p.lt k := by
  have key : ∀ p : PV, p.pl = true → p.lt k := by
    intro p
    refine PV.rec (motive_1 := fun p => p.pl = true → p.lt k) (motive_2 := fun l => PV.pl.plL l = true → ltAll k l) ?_ ?_ ?_ ?_ ?_ ?_ ?_ ?_ ?_ ?_ ?_ ?_ ?_ ?_ ?_ ?_ ?_ ?_ ?_ ?_ ?_ p <;>
      first
        | (intros; trivial)
        | (intro _ ih h; exact ih h)
        | (intro i off h; cases h)
        | (intro i h; exact (Bool.false_ne_true h).elim)
        | (intro i off sz len cap h; cases h)
        | (intro _ _ ih h; cases h)
        | (intro _ _ _ _ _ h; cases h)
        | (intro _ _ ih1 ih2 h; simp only [PV.pl.plL, Bool.and_eq_true] at h; exact ⟨ih1 h.1, ih2 h.2⟩)
        | (intro _ _ h; cases h)
  exact key p h

theorem cells_P {K : Nat → Kind} {w : World} {v : Value} {p : PV} (h : RepP K w v p) : v.cells.size = p.cells.length ∧ ∀ (j : Nat) u c, v.cells[j]? = some u → p.cells[j]? = some c → RepP K w u c := by
  have one : ∀ {v : Value} {p : PV}, v.cells = #[v] → p.cells = [p] → RepP K w v p → v.cells.size = p.cells.length ∧ ∀ (j : Nat) u c, v.cells[j]? = some u → p.cells[j]? = some c → RepP K w u c := by
    intro v p e1 e2 h
    rw [e1, e2]
    refine ⟨rfl, fun j u c h1 h2 => ?_⟩
    cases j with
    | zero => simp at h1 h2; subst h1; subst h2; exact h
    | succ j => simp at h2
  cases h with
  | agg vs cs hl h => exact ⟨hl, h⟩
  | bool b => exact one rfl rfl (.bool b)
  | int k z => exact one rfl rfl (.int k z)
  | str s => exact one rfl rfl (.str s)
  | nilfn => exact one rfl rfl .nilfn
  | nilif => exact one rfl rfl .nilif
  | nilptr => exact one rfl rfl .nilptr
  | nils sz => exact one rfl rfl (.nils sz)
  | sl0 a cap sz => exact one rfl rfl (.sl0 a cap sz)
  | sl ad cap sz p es vs hs hK hp hc hsz hv hr => exact one rfl rfl (.sl ad cap sz p es vs hs hK hp hc hsz hv hr)

/-- Cells set one behind the other. -/
theorem foldl_set (vs : List Value) : ∀ (off k : Nat) (cs : Array Value), off + k + vs.length ≤ cs.size →
    ((vs.zipIdx k).foldl (fun cs (x : Value × Nat) => cs.setIfInBounds (off + x.2) x.1) cs).size = cs.size ∧
    ∀ j, ((vs.zipIdx k).foldl (fun cs (x : Value × Nat) => cs.setIfInBounds (off + x.2) x.1) cs)[j]? = if off + k ≤ j ∧ j < off + k + vs.length then vs[j - (off + k)]? else cs[j]? := by
  induction vs with
  | nil => intro off k cs h; exact ⟨rfl, fun j => by rw [if_neg (by simp only [List.length_nil]; omega)]; rfl⟩
  | cons v r ih =>
    intro off k cs h
    simp only [List.length_cons] at h
    simp only [List.zipIdx_cons, List.foldl_cons]
    obtain ⟨h1, h2⟩ := ih off (k + 1) (cs.setIfInBounds (off + k) v) (by rw [Array.size_setIfInBounds]; omega)
    refine ⟨by rw [h1]; simp, fun j => ?_⟩
    rw [h2]
    simp only [List.length_cons]
    by_cases e : j = off + k
    · subst e
      rw [if_neg (by omega), if_pos (by omega), Array.getElem?_setIfInBounds_self_of_lt (by omega)]
      simp
    · by_cases e2 : off + (k + 1) ≤ j ∧ j < off + (k + 1) + r.length
      · rw [if_pos e2, if_pos (by omega), show j - (off + k) = (j - (off + (k + 1))) + 1 by omega]; rfl
      · rw [if_neg e2, if_neg (by omega), Array.getElem?_setIfInBounds_ne (by omega)]

theorem fill_row {sz : Nat} : ∀ (vs : List Value) (k : Nat) (cs : Array Value), (∀ v ∈ vs, v.cells.size = sz) → (k + vs.length) * sz ≤ cs.size →
    ∃ r, Instr.fill (fun i => some (i * sz, sz)) cs (vs.zipIdx k |>.map fun x => (x.2, x.1)) = some r ∧ r.size = cs.size ∧
      (∀ j, j < k * sz → r[j]? = cs[j]?) ∧ ∀ (i : Nat) v, vs[i]? = some v → ∀ j, j < sz → r[(k + i) * sz + j]? = v.cells[j]?
  | [], k, cs, _, _ => ⟨cs, rfl, rfl, fun _ _ => rfl, fun i v h => by simp at h⟩
  | v :: r, k, cs, hv, hl => by
    simp only [List.length_cons] at hl
    have hv0 := hv v (by simp)
    have hk : k * sz + sz ≤ cs.size := by
      have : (k + 1) * sz ≤ (k + (r.length + 1)) * sz := Nat.mul_le_mul_right _ (by omega)
      rw [Nat.succ_mul] at this; omega
    obtain ⟨f1, f2⟩ := foldl_set v.cells.toList (k * sz) 0 cs (by simp; omega)
    have hz : v.cells.zipIdx.foldl (fun cs (x : Value × Nat) => cs.setIfInBounds (k * sz + x.2) x.1) cs = (v.cells.toList.zipIdx 0).foldl (fun cs (x : Value × Nat) => cs.setIfInBounds (k * sz + x.2) x.1) cs := by
      rw [← Array.foldl_toList, Array.toList_zipIdx]
    obtain ⟨r', h1, h2, h3, h4⟩ := fill_row (sz := sz) r (k + 1) (v.cells.zipIdx.foldl (fun cs (x : Value × Nat) => cs.setIfInBounds (k * sz + x.2) x.1) cs) (fun x hx => hv x (List.mem_cons_of_mem _ hx)) (by
      rw [hz, f1]; rw [show k + 1 + r.length = k + (r.length + 1) by omega]; exact hl)
    refine ⟨r', ?_, by rw [h2, hz, f1], fun j hj => ?_, fun i u hi j hj => ?_⟩
    · simp only [List.zipIdx_cons, List.map_cons, Instr.fill]
      rw [if_neg]
      · exact h1
      · simp only [Bool.or_eq_true, bne_iff_ne, ne_eq, decide_eq_true_eq, not_or, Decidable.not_not]
        exact ⟨hv0, by omega⟩
    · rw [h3 j (by rw [Nat.succ_mul]; omega), hz, f2, if_neg (by omega)]
    · cases i with
      | zero =>
        simp at hi; subst hi
        rw [Nat.add_zero, h3 _ (by rw [Nat.succ_mul]; omega), hz, f2, if_pos (by simp; omega)]
        simp
      | succ i =>
        simp at hi
        rw [show k + (i + 1) = k + 1 + i by omega]
        exact h4 i u hi j hj

section
variable {P : Program} {l : Option Nat} {tt : TT} {n m : Nat} {all : Array Oper} {rest : List Oper} {env : Env} {σ : Sto} {Q : Post} {d : Nat} {ty : TypeId} {pos : String} {after : Array Edge}

/-- What the block of a slice is. -/
def kOf (o : Own) (p : Nat) : Kind := match o with
  | .ex => .own
  | _ => .imm p

/-- How a fresh row of elements stands for a slice. -/
theorem fresh_slice {G : Gh} {w : World} {sz cap : Nat} {es : List PV} {arr : Array Value} {T : TypeId} {o : Own} {fz : Nat × Nat} (hcap : es.length ≤ cap) (hsz : ∀ e ∈ es, e.cells.length = sz) (ha : cap * sz ≤ arr.size)
    {w' : World} (hh : w'.heap[w.heap.size]? = some (.cells arr T fz)) (hfz : ∀ j, j < arr.size → w'.frozen? ⟨w.heap.size, j, none⟩ = false)
    (hv : ∀ (j : Nat) c, (flat es)[j]? = some c → ∃ v, arr[j]? = some v ∧ RepP (upd G.K w.heap.size (kOf o (es.length * sz))) w' v c) :
    RepO ⟨upd G.K w.heap.size (kOf o (es.length * sz)), G.bs⟩ w' (.slice (some ⟨w.heap.size, 0, none⟩) es.length cap) (.sl o sz es) := by
  have hfl := flat_length hsz
  have hmul : es.length * sz ≤ cap * sz := Nat.mul_le_mul_right _ hcap
  have hcell : ∀ j, w'.cell? ⟨w.heap.size, j, none⟩ = arr[j]? := fun j => by simp [World.cell?, hh]
  have hvs : ∀ j, j < es.length * sz → w'.cell? ⟨w.heap.size, j, none⟩ = some (arr.getD j undef) := by
    intro j hj
    rw [hcell]
    have : j < arr.size := by omega
    simp [this]
  have hrs : ∀ j c, (flat es)[j]? = some c → RepP (upd G.K w.heap.size (kOf o (es.length * sz))) w' (arr.getD j undef) c := by
    intro j c hc
    obtain ⟨v, h1, h2⟩ := hv j c hc
    have hj : j < arr.size := (Array.getElem?_eq_some_iff.1 h1).1
    have : arr.getD j undef = v := by
      have e : arr[j] = v := by simpa [hj] using h1
      simp [hj, e]
    rw [this]; exact h2
  have hsp : Spare w' w.heap.size 0 (cap * sz) := ⟨arr, T, fz, hh, ha, fun j _ hj => hfz j (by omega)⟩
  cases o with
  | sh => exact .sh (.pl (.sl ⟨w.heap.size, 0, none⟩ cap sz (es.length * sz) es (fun j => arr.getD j undef) rfl (upd_same _ _ _) (by simp) hcap hsz (fun j hj => by simpa using hvs j hj) hrs))
  | ow =>
    refine .ow _ cap sz es (.sl ⟨w.heap.size, 0, none⟩ cap sz (es.length * sz) es (fun j => arr.getD j undef) rfl (upd_same _ _ _) (by simp) hcap hsz (fun j hj => by simpa using hvs j hj) hrs) fun _ => ⟨_, rfl, rfl, ?_, ?_⟩
    · simp only [Nat.zero_add]; exact upd_same _ _ _
    · simp only [Nat.zero_add]; exact hsp.sub (Nat.zero_le _) (Nat.le_refl _)
  | ex =>
    by_cases h0 : 0 < cap
    · exact .ex w.heap.size cap sz es (fun j => arr.getD j undef) (upd_same _ _ _) hcap h0 hsp hsz hvs hrs
    · have : cap = 0 := by omega
      subst this
      have : es = [] := List.length_eq_zero_iff.1 (by omega)
      subst this
      exact .ex0 _ _

/-- A slot is set to a fresh slice. -/
theorem Sim.setFresh {F : Nat → Prop} {G : Gh} {a : Act} {w w' : World} {K' : Nat → Kind} (h : Sim n m F ⟨K', G.bs⟩ env σ a w') (hd : d < n) {cap len sz : Nat} {es : List PV} {o : Own}
    (hr : RepO ⟨K', G.bs⟩ w' (.slice (some ⟨w.heap.size, 0, none⟩) len cap) (.sl o sz es)) (hno : ∀ l, ownAt ⟨K', G.bs⟩ env σ a.tmps w' l ≠ some w.heap.size) (hF : ¬ F w.heap.size) :
    Sim n m F ⟨K', G.bs⟩ ((d, .sl o sz es) :: env) σ (a.put (some d) (.slice (some ⟨w.heap.size, 0, none⟩) len cap)) w' := by
  have hslot : ∀ j b, ownSlot (.slice (some ⟨w.heap.size, 0, none⟩) len cap) (.sl o sz es) j = some b → j = 0 ∧ b = w.heap.size := by
    intro j b hb
    unfold ownSlot at hb
    simp only at hb
    split at hb
    · rename_i hj
      refine ⟨hj, ?_⟩
      cases o <;> simp only [ownB] at hb <;> first | (cases hb; done) | (split at hb <;> first | (cases hb; rfl) | cases hb)
    · cases hb
  exact h.set hd (.one hr) trivial (fun j b hb => by obtain ⟨_, rfl⟩ := hslot j b hb; exact ⟨hF, fun l hl => absurd hl (hno l)⟩) (fun j1 j2 b h1 h2 => by rw [(hslot j1 b h1).1, (hslot j2 b h2).1])

theorem own_lt {F : Nat → Prop} {G : Gh} {a : Act} {w : World} (h : Sim n m F G env σ a w) {l : Loc} {b : Nat} (hl : ownAt G env σ a.tmps w l = some b) : b < w.heap.size := by
  cases l with
  | slot t j =>
    simp only [ownAt] at hl
    have hr := h.rep t
    revert hl hr
    generalize a.tmps.getD t undef = v
    generalize look env t = p
    intro hl hr
    cases hr with
    | one hr =>
      unfold ownSlot at hl
      split at hl
      · cases hr with | sh hr => exact hr.notup.elim
      · split at hl
        · exact ownB_lt hr hl
        · cases hl
    | tup vs ps hl' hr =>
      simp only [ownSlot] at hl
      split at hl
      · rename_i v' p' hv hp; exact ownB_lt (hr j _ _ hv hp) hl
      · cases hl
  | cell i j =>
    simp only [ownAt] at hl
    split at hl
    · rename_i cs hi
      split at hl
      · rename_i c v hc hv
        obtain ⟨_, _, h3⟩ := h.sto i _ hi
        obtain ⟨v', h4, h5⟩ := h3 j c hc
        rw [hv] at h4; cases h4
        exact ownB_lt h5 hl
      · cases hl
    · cases hl

/-- A slice that is written out. -/
theorem op_buildSlice (o : Own) (ht : TabOK P tt) {t eT : TypeId} {e : TI} {xs : List Operand} {es : List PV} (he : eti tt t = some e) (hps : es = xs.map (opv tt env eT)) (hpl : es.all PV.pl = true)
    (hsz : es.all (fun p => Nat.beq p.cells.length e.size) = true) (hbig : es.length * e.size ≤ 16777216) {len : Nat} {parts : Array (Nat × Operand)} (hlen : len = es.length)
    (hparts : parts = ((xs.zipIdx 0).map fun x => (x.2, x.1)).toArray) (hd : d < n) (h : SatOps P l n m all rest ((d, .sl o e.size es) :: env) σ Q) :
    SatOps P l n m all (⟨some d, .buildSlice t len parts, ty, pos, after, none⟩ :: rest) env σ Q := by
  subst hparts hlen
  refine op_gen rfl (by simp) fun F G a w hs => ?_
  obtain ⟨eT', hu, hT⟩ := eti_ok ht he
  have hsz' : ∀ p ∈ es, p.cells.length = e.size := fun p hp => Nat.eq_of_beq_eq_true (List.all_eq_true.1 hsz p hp)
  have hrep : ∀ (i : Nat) x, xs[i]? = some x → RepP G.K w (a.eval x) (opv tt env eT x) := by
    intro i x hx
    have hm : opv tt env eT x ∈ es := by rw [hps]; exact List.mem_map.2 ⟨x, List.mem_of_getElem? hx, rfl⟩
    have hp := List.all_eq_true.1 hpl _ hm
    exact ((opv_ok hs tt eT x).toS (pl_isS hp)).plain hp
  have hlen : es.length = xs.length := by rw [hps]; simp
  have hcs : ∀ v ∈ xs.map a.eval, v.cells.size = e.size := by
    intro v hv
    obtain ⟨x, hx, rfl⟩ := List.mem_map.1 hv
    obtain ⟨i, hi, rfl⟩ := List.getElem_of_mem hx
    have h1 := (cells_P (hrep i xs[i] (by simp [hi]))).1
    rw [h1]; exact hsz' _ (by rw [hps]; exact List.mem_map.2 ⟨_, hx, rfl⟩)
  obtain ⟨z, hz, _⟩ := hT.rzero w
  obtain ⟨z0, hz0, hz1⟩ : ∃ z0 : Array Value, (es.length * e.size = 0 → z0 = #[]) ∧ (¬ es.length * e.size = 0 → z0 = z.cells) := by
    by_cases h0 : es.length * e.size = 0
    · exact ⟨#[], fun _ => rfl, fun h => absurd h0 h⟩
    · exact ⟨z.cells, fun h => absurd h h0, fun _ => rfl⟩
  obtain ⟨r, hr1, hr2, _, hr4⟩ := fill_row (sz := e.size) (xs.map a.eval) 0 ((Array.range (es.length * e.size)).map (z0[· % z0.size]!)) hcs (by simp [hlen])
  have hrs : r.size = es.length * e.size := by rw [hr2]; simp
  have hmap : (((xs.zipIdx 0).map fun x => (x.2, x.1)).toArray.map fun (x : Nat × Operand) => (x.1, a.eval x.2)).toList = ((xs.map a.eval).zipIdx 0).map fun x => (x.2, x.1) := by
    simp [List.zipIdx_map, List.map_map, Function.comp_def]
  have hrun : (execOp a.eval ⟨some d, .buildSlice t es.length ((xs.zipIdx 0).map fun x => (x.2, x.1)).toArray, ty, pos, after, none⟩).run P w = .ok (.value (.slice (some ⟨w.heap.size, 0, none⟩) es.length es.length)) (w.alloc (.cells r eT')) := by
    have hbig' : ¬ (16777216 < es.length * e.size) := by omega
    simp only [execOp, Instr.buildSlice, Sem.run_bind, underlying, hu, run_program, Result.andThen_ok, Sem.run_pure, hT.rsize w]
    simp only [show ¬ (es.length * e.size > 2 ^ 24) by omega, if_false, hmap]
    by_cases h0 : es.length * e.size = 0
    · rw [if_pos h0]
      have := hz0 h0
      subst this
      simp only [Sem.run_bind, Sem.run_pure, Result.andThen_ok, hr1, newRow, run_newObj, World.alloc_eq]
    · rw [if_neg h0]
      have := hz1 h0
      subst this
      simp only [Sem.run_bind, Sem.run_pure, Result.andThen_ok, hz, hr1, newRow, run_newObj, World.alloc_eq]
  have hfl := flat_length hsz'
  have hcell : ∀ (j : Nat) c, (flat es)[j]? = some c → ∃ v, r[j]? = some v ∧ RepP G.K w v c := by
    intro j c hc
    have hj : j < es.length * e.size := by rw [← hfl]; exact (List.getElem?_eq_some_iff.1 hc).1
    have hsp : 0 < e.size := by
      rcases Nat.eq_zero_or_pos e.size with h | h
      · rw [h] at hj; simp at hj
      · exact h
    have hi : j / e.size < es.length := (Nat.div_lt_iff_lt_mul hsp).2 hj
    have hjj : j / e.size * e.size + j % e.size = j := by rw [Nat.mul_comm]; exact Nat.div_add_mod j e.size
    have hm : j % e.size < e.size := Nat.mod_lt _ hsp
    have hei : es[j / e.size]? = some es[j / e.size] := by simp [hi]
    have hc' := flat_get hsz' hei (j % e.size) hm
    rw [hjj] at hc'
    have hx : xs[j / e.size]? = some (xs[j / e.size]'(by omega)) := List.getElem?_eq_getElem _
    have hv := hr4 (j / e.size) (a.eval (xs[j / e.size]'(by omega))) (by rw [List.getElem?_map, hx]; rfl) (j % e.size) hm
    rw [Nat.zero_add, hjj] at hv
    have hP := cells_P (hrep _ _ hx)
    have hes : es[j / e.size] = opv tt env eT (xs[j / e.size]'(by omega)) := by simp [hps]
    rw [hc, hes] at hc'
    have hjv : j % e.size < (a.eval (xs[j / e.size]'(by omega))).cells.size := by rw [hP.1, ← hes, hsz' _ (List.getElem_mem hi)]; exact hm
    refine ⟨(a.eval (xs[j / e.size]'(by omega))).cells[j % e.size], by rw [hv]; simp [hjv], hP.2 _ _ _ (by simp [hjv]) hc'.symm⟩
  have hs1 := hs.alloc (.cells r eT') (kOf o (es.length * e.size))
  have hfs := fresh_slice (G := G) (w := w) (o := o) (cap := es.length) (T := eT') (fz := (0, 0)) (Nat.le_refl _) hsz' (arr := r) (by omega) (w' := w.alloc (.cells r eT')) (heap_alloc_new w _) (fun j _ => World.frozen?_alloc_new w r eT' j) (fun j c hc => by
    obtain ⟨v, h1, h2⟩ := hcell j c hc
    exact ⟨v, h1, h2.mono (ImmLe.alloc hs _ _)⟩)
  refine ⟨_, _, _, _, σ, .inl hrun, hs1.setFresh hd hfs (fun l hl => ?_) (fun hF => absurd (hs.frlt _ hF) (Nat.lt_irrefl _)), Evol.alloc hs _ _ _ fun _ _ => rfl, h⟩
  have h2 : ownAt G env σ a.tmps w l = some w.heap.size := by
    cases l with
    | slot t j => exact hl
    | cell i j =>
      simp only [ownAt] at hl ⊢
      split at hl
      · rename_i cs hi
        have hb : G.bs i < w.heap.size := hs.kfree _ (by rw [(hs.sto i _ hi).1]; simp)
        rw [World.cell?_alloc_lt w _ ⟨G.bs i, j, none⟩ hb] at hl
        exact hl
      · cases hl
  exact absurd (own_lt hs h2) (Nat.lt_irrefl _)

end
end Go.Proofs.Ytflgoabdgibphaa.Pv
