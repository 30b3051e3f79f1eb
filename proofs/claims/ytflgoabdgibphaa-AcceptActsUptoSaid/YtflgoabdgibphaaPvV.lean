/- More operations that only look: a box, a function value, a struct that is built. -/
import Derived.Test.YtflgoabdgibphaaPvU
namespace Go.Proofs.Ytflgoabdgibphaa.Pv
open Go
set_option linter.unusedVariables false
set_option linter.unusedSimpArgs false

/-- Where the fields of a struct lie. -/
def plsL (tt : TT) : List Field → Option (List (Nat × Nat))
  | [] => some []
  | f :: r => match tl tt f.type, plsL tt r with
    | some i, some l => some ((f.offset, i.size) :: l)
    | _, _ => none

/-- Parts laid into cells. -/
def fillP1 (tt : TT) (env : Env) (pl : List (Nat × Nat)) : List PV → List (Nat × Operand) → Option (List PV)
  | cs, [] => some cs
  | cs, (k, x) :: r => match pl[k]? with
    | some (off, sz) => (match (opv tt env 0 x).isS && (Nat.beq (opv tt env 0 x).cells.length sz && Nat.ble (off + sz) cs.length) with
      | true => fillP1 tt env pl (putAt cs off (opv tt env 0 x).cells) r
      | false => none)
    | none => none

/-- The type that a part has, for constants: none is needed. -/
def buildP (tt : TT) (env : Env) (t : TypeId) (parts : List (Nat × Operand)) : Option (Prop × PV) :=
  match tl tt t with
  | some ⟨.struct fs, _, _, z⟩ => (match plsL tt fs.toList with
    | some pl => (match fillP1 tt env pl z parts with
      | some cs => some (True, .agg cs)
      | none => none)
    | none => none)
  | _ => none

section
variable {P : Program} {l : Option Nat} {tt : TT} {n m : Nat} {all : Array Oper} {rest : List Oper} {env : Env} {σ : Sto} {Q : Post} {d : Nat} {dd : Option Nat} {ty : TypeId} {pos : String} {after : Array Edge} {g : Option (Nat × Bool)} {c : Prop} {p : PV}

theorem op_lk {op : Op} (hl : LookAt P n m env σ ⟨some d, op, ty, pos, after, none⟩ p) (hnd : ∀ c, op ≠ .defer c) (hd : Nat.ble (d + 1) n = true) (h : SatOps P l n m all rest ((d, p) :: env) σ Q) :
    SatOps P l n m all (⟨some d, op, ty, pos, after, none⟩ :: rest) env σ Q := by
  refine ⟨fun F G a w hs => ?_⟩
  obtain ⟨v, h1, h2, h3⟩ := hl.go F G a w hs
  exact list_run rfl (upon_value hnd h1 (h.go F G _ w (hs.setN (ltn hd) h2 h3)))

theorem lk_loadB (ht : TabOK P tt) {t : TypeId} {x : Operand} {i off : Nat} {ti : TI} {cs : List PV} (hx : opv tt env t x = .ptr i off) (hti : tl tt t = some ti)
    (hi : σ[i]? = some (.cells cs)) (hl : loadB ti cs off = some (c, p)) (hc : c) : LookAt P n m env σ ⟨dd, .load t x, ty, pos, after, g⟩ p := by
  refine ⟨fun F G a w hs => ?_⟩
  have hxo := opv_ok hs tt t x
  rw [hx] at hxo
  have ev := (hxo.toS rfl).ptrv
  obtain ⟨v, h1, h2, h3⟩ := loadB_ok (P := P) ht hs hti hi hl hc
  exact ⟨v, by simp [execOp, ev, Instr.loadAt, Instr.sureAddr, h1], .inr (.inl h2), h3⟩

theorem opvs_S {F : Nat → Prop} {G : Gh} {a : Act} {w : World} (hs : Sim n m F G env σ a w) : ∀ (xs : List Operand), ((xs.map (opv tt env 0)).all PV.isS) = true →
    (∀ (j : Nat) v c, (xs.map a.eval)[j]? = some v → (xs.map (opv tt env 0))[j]? = some c → RepS G w v c) ∧ ltAll σ.length (xs.map (opv tt env 0))
  | [], _ => ⟨fun j v c h => by simp at h, trivial⟩
  | x :: xs, h => by
    simp only [List.map_cons, List.all_cons, Bool.and_eq_true] at h
    obtain ⟨h1, h2⟩ := opvs_S hs xs h.2
    refine ⟨fun j v c hv hc => ?_, opv_lt hs tt 0 x, h2⟩
    cases j with
    | zero => simp at hv hc; subst hv; subst hc; exact (opv_ok hs tt 0 x).toS h.1
    | succ j => simp at hv hc; exact h1 j v c (by simpa using hv) (by simpa using hc)

theorem lk_makeFunc {f : Fn} {first cap : Array Operand} (h1 : ((first.toList.map (opv tt env 0)).all PV.isS) = true) (h2 : ((cap.toList.map (opv tt env 0)).all PV.isS) = true)
    (hp : PV.fn f (first.toList.map (opv tt env 0)) (cap.toList.map (opv tt env 0)) = p) : LookAt P n m env σ ⟨dd, .makeFunc f first cap, ty, pos, after, g⟩ p := by
  refine ⟨fun F G a w hs => ?_⟩
  subst hp
  obtain ⟨k1, k2⟩ := opvs_S hs first.toList h1
  obtain ⟨k3, k4⟩ := opvs_S hs cap.toList h2
  refine ⟨.func f (first.map a.eval) (cap.map a.eval), by simp [execOp, Instr.makeFunc], .inr (.inl (.fn _ _ _ _ _ (by simp) (by simp) (fun j v c hv hc => ?_) (fun j v c hv hc => ?_))), k2, k4⟩
  · exact k1 j v c (by rw [← Array.getElem?_toList] at hv; simpa using hv) hc
  · exact k3 j v c (by rw [← Array.getElem?_toList] at hv; simpa using hv) hc

theorem fill_ok {F : Nat → Prop} {G : Gh} {a : Act} {w : World} (hs : Sim n m F G env σ a w) (pl : List (Nat × Nat)) (place : Nat → Option (Nat × Nat)) (hpl : ∀ k, place k = pl[k]?) :
    ∀ (parts : List (Nat × Operand)) (cs cs' : List PV) (arr : Array Value), fillP1 tt env pl cs parts = some cs' → arr.size = cs.length → (∀ (j : Nat) v c, arr[j]? = some v → cs[j]? = some c → RepS G w v c) → ltAll σ.length cs →
      ∃ arr', Instr.fill place arr (parts.map fun x => (x.1, a.eval x.2)) = some arr' ∧ arr'.size = cs'.length ∧ (∀ (j : Nat) v c, arr'[j]? = some v → cs'[j]? = some c → RepS G w v c) ∧ ltAll σ.length cs'
  | [], cs, cs', arr, h, hl, hr, hlt => by cases h; exact ⟨arr, rfl, hl, hr, hlt⟩
  | (k, x) :: r, cs, cs', arr, h, hl, hr, hlt => by
    simp only [fillP1] at h
    split at h
    · rename_i off sz hk
      split at h
      · rename_i hb
        simp only [Bool.and_eq_true] at hb
        obtain ⟨b1, b2, b3⟩ := hb
        have b2 := Nat.eq_of_beq_eq_true b2
        have b3 := Nat.le_of_ble_eq_true b3
        have hx := (opv_ok hs tt 0 x).toS b1
        have hxl := opv_lt hs tt 0 x
        obtain ⟨c1, c2⟩ := cells_of_S hx
        obtain ⟨f1, f2⟩ := foldl_set (a.eval x).cells.toList off 0 arr (by simp; omega)
        have hz : (a.eval x).cells.zipIdx.foldl (fun cs (x : Value × Nat) => cs.setIfInBounds (off + x.2) x.1) arr = ((a.eval x).cells.toList.zipIdx 0).foldl (fun cs (x : Value × Nat) => cs.setIfInBounds (off + x.2) x.1) arr := by
          rw [← Array.foldl_toList, Array.toList_zipIdx]
        obtain ⟨q1, q2⟩ := putAt_get cs off (opv tt env 0 x).cells (by omega)
        rw [← hz] at f1 f2
        obtain ⟨arr', g1, g2, g3, g4⟩ := fill_ok hs pl place hpl r _ cs' ((a.eval x).cells.zipIdx.foldl (fun cs (x : Value × Nat) => cs.setIfInBounds (off + x.2) x.1) arr) h (by rw [f1, q1, hl]) (fun j v c hv hc => by
            rw [f2] at hv
            rw [q2] at hc
            simp only [Nat.add_zero, Array.length_toList] at hv
            by_cases e : off ≤ j ∧ j < off + (opv tt env 0 x).cells.length
            · rw [if_pos e] at hc
              rw [if_pos (by omega)] at hv
              exact c2 (j - off) v c (by simpa using hv) hc
            · rw [if_neg e] at hc
              rw [if_neg (by omega)] at hv
              exact hr j v c hv hc) (by
            rw [ltAll_iff]; intro c hc
            obtain ⟨j, hj, rfl⟩ := List.getElem_of_mem hc
            have hc' := q2 j
            rw [List.getElem?_eq_getElem hj] at hc'
            split at hc'
            · exact ltAll_iff.1 (cells_lt hxl) _ (List.mem_of_getElem? hc'.symm)
            · exact ltAll_iff.1 hlt _ (List.mem_of_getElem? hc'.symm))
        refine ⟨arr', ?_, g2, g3, g4⟩
        simp only [List.map_cons, Instr.fill, hpl, hk]
        rw [if_neg]
        · exact g1
        · simp only [Bool.or_eq_true, bne_iff_ne, ne_eq, decide_eq_true_eq, not_or, Decidable.not_not]
          omega
      · cases h
    · cases h

theorem pls_run (ht : TabOK P tt) (w : World) : ∀ (fs : List Field) (pl : List (Nat × Nat)), plsL tt fs = some pl → (fs.mapM fun f => (do pure (f.offset, ← sizeOf f.type) : Sem (Nat × Nat))).run P w = .ok pl w
  | [], pl, h => by cases h; rfl
  | f :: r, pl, h => by
    simp only [plsL] at h
    split at h
    · rename_i i l hi hl
      cases h
      have h1 := (ht _ _ hi).rsize w
      have h2 := pls_run ht w r l hl
      simp only [List.mapM_cons, Sem.run_bind, h1, Result.andThen_ok, Sem.run_pure]
      rw [h2]
      rfl
    · cases h

theorem zero_S {P : Program} {t : Nat} {i : TI} (h : TyOK P t i) (hS : i.zero.all PV.isS = true) (G : Gh) (w : World) : ∃ z, (zeroValue t).run P w = .ok z w ∧ z.cells.size = i.zero.length ∧ ∀ (j : Nat) v c, z.cells[j]? = some v → i.zero[j]? = some c → RepS G w v c := by
  obtain ⟨z, h1, h2⟩ := h.rzero w
  refine ⟨z, h1, ?_⟩
  have key : ∀ (vs : List Value) (ps : List PV), zcs vs ps = true → ps.all PV.isS = true → vs.length = ps.length ∧ ∀ (j : Nat) v c, vs[j]? = some v → ps[j]? = some c → RepS G w v c := by
    intro vs
    induction vs with
    | nil => intro ps h _; cases ps with
      | nil => exact ⟨rfl, fun j v c h => by simp at h⟩
      | cons => cases h
    | cons v r ih =>
      intro ps h hS
      cases ps with
      | nil => cases h
      | cons p q =>
        simp only [zcs, Bool.and_eq_true] at h
        simp only [List.all_cons, Bool.and_eq_true] at hS
        obtain ⟨e1, e2⟩ := ih q h.2 hS.2
        refine ⟨by simp [e1], fun j v' c hv hc => ?_⟩
        cases j with
        | zero =>
          simp at hv hc
          subst hv; subst hc
          have h0 := h.1
          unfold zc1 at h0
          split at h0 <;> first | exact .pl (.bool _) | exact .pl .nilfn | exact .pl .nilif | exact .pl .nilptr | exact .pl (.nils _) | exact .pl (.sl0 _ _ _) | skip
          · simp only [Bool.and_eq_true, beq_iff_eq] at h0; rw [h0.1, h0.2]; exact .pl (.int _ _)
          · rename_i s s'
            simp only [Bool.and_eq_true, beq_iff_eq] at h0
            have e : s = s' := by
              have a1 : s.data = #[] := Array.eq_empty_of_size_eq_zero h0.1
              have a2 : s'.data = #[] := Array.eq_empty_of_size_eq_zero h0.2
              cases s; cases s'; simp only at a1 a2; rw [a1, a2]
            subst e; exact .pl (.str _)
          · have := hS.1; cases this
          · cases h0
        | succ j => simp at hv hc; exact e2 j v' c hv hc
  obtain ⟨k1, k2⟩ := key z.cells.toList i.zero h2 hS
  exact ⟨by simpa using k1, fun j v c hv hc => k2 j v c (by simpa using hv) hc⟩

theorem zero_lt {P : Program} {t : Nat} {i : TI} (h : TyOK P t i) (k : Nat) : ltAll k i.zero := by
  obtain ⟨info, z, _, _, _, _, h5⟩ := h.inf
  have key : ∀ (vs : List Value) (ps : List PV), zcs vs ps = true → ltAll k ps := by
    intro vs
    induction vs with
    | nil => intro ps h; cases ps with
      | nil => trivial
      | cons => cases h
    | cons v r ih =>
      intro ps h
      cases ps with
      | nil => cases h
      | cons p q =>
        simp only [zcs, Bool.and_eq_true] at h
        refine ⟨?_, ih q h.2⟩
        have h0 := h.1
        unfold zc1 at h0
        split at h0 <;> first | trivial | cases h0
  exact key _ _ h5

theorem lk_build (ht : TabOK P tt) {t : TypeId} {parts : Array (Nat × Operand)} (hz : (match tl tt t with | some i => i.zero.all PV.isS | none => false) = true) (hp : buildP tt env t parts.toList = some (c, p)) : LookAt P n m env σ ⟨dd, .build t parts, ty, pos, after, g⟩ p := by
  refine ⟨fun F G a w hs => ?_⟩
  unfold buildP at hp
  split at hp
  · rename_i fs sz by_ z hT
    split at hp
    · rename_i pl hpl
      split at hp
      · rename_i cs hcs
        cases hp
        have hT' := ht _ _ hT
        rw [hT] at hz
        obtain ⟨zv, z1, z2, z3⟩ := zero_S hT' hz G w
        obtain ⟨arr', g1, g2, g3, g4⟩ := fill_ok hs pl (fun k => pl.toArray[k]?) (fun k => by simp) parts.toList z cs zv.cells hcs z2 z3 (zero_lt hT' _)
        refine ⟨.agg arr', ?_, .inr (.inl (.agg _ _ g2 g3)), g4⟩
        have hrun := pls_run ht w fs.toList pl hpl
        have hm : (fs.mapM fun f => (do pure (f.offset, ← sizeOf f.type) : Sem (Nat × Nat))).run P w = .ok pl.toArray w := by
          rw [Array.mapM_eq_mapM_toList]
          simp only [Sem.run_bind, Sem.run_map]
          rw [hrun]; rfl
        have e1 : (parts.map fun x => (x.1, a.eval x.2)).toList = parts.toList.map fun x => (x.1, a.eval x.2) := by simp
        simp only [execOp, Instr.build, Sem.run_bind, z1, Result.andThen_ok, hT'.rund w, hm, e1]
        rw [g1]
        rfl
      · cases hp
    · cases hp
  · cases hp

end
end Go.Proofs.Ytflgoabdgibphaa.Pv
