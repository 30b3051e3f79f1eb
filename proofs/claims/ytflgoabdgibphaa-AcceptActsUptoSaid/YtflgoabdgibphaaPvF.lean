/- More operations that only look. -/
import Derived.Test.YtflgoabdgibphaaPvE
import Derived.Laws.Slices
import Derived.Laws.Cells
namespace Go.Proofs.Ytflgoabdgibphaa.Pv
open Go
set_option linter.unusedVariables false
set_option linter.unusedSimpArgs false

theorem add_eq {ad : Addr} (hs : ad.spot = none) (j : Nat) : ad.add j = ⟨ad.block, ad.off + j, none⟩ := by
  obtain ⟨b, o, s⟩ := ad
  simp only at hs
  subst hs
  unfold Addr.add
  split
  · rename_i h; simp [h]
  · rfl

section
variable {P : Program} {tt : TT} {n m : Nat} {F : Nat → Prop} {G : Gh} {env : Env} {σ : Sto} {a : Act} {w : World} {d : Option Nat} {ty : TypeId} {pos : String} {after : Array Edge}

theorem look_move (h : Sim n m F G env σ a w) {x : Operand} : Looks P G σ w (execOp a.eval ⟨d, .move x, ty, pos, after, none⟩) (some (True, opv tt env ty x)) := by
  intro c p hr _
  cases hr
  exact ⟨_, rfl, opv_ok h tt ty x, opv_lt h tt ty x⟩
theorem look_assign (h : Sim n m F G env σ a w) {x : Operand} : Looks P G σ w (execOp a.eval ⟨d, .assign x, ty, pos, after, none⟩) (some (True, opv tt env ty x)) := by
  intro c p hr _
  cases hr
  exact ⟨_, rfl, opv_ok h tt ty x, opv_lt h tt ty x⟩

def pickP (tt : TT) (env : Env) (ty : Nat) (c x y : Operand) : Option (Prop × PV) :=
  match opv tt env ty c with
  | .bool true => some (True, opv tt env ty x)
  | .bool false => some (True, opv tt env ty y)
  | _ => none
theorem look_pick (h : Sim n m F G env σ a w) {c x y : Operand} : Looks P G σ w (execOp a.eval ⟨d, .pick c x y, ty, pos, after, none⟩) (pickP tt env ty c x y) := by
  intro c' p hr _
  have hc := opv_ok h tt ty c
  unfold pickP at hr
  generalize opv tt env ty c = pc at *
  split at hr
  · have e := (hc.toS rfl).bool
    cases hr
    exact ⟨a.eval x, by simp [execOp, e, asBool], opv_ok h tt ty x, opv_lt h tt ty x⟩
  · have e := (hc.toS rfl).bool
    cases hr
    exact ⟨a.eval y, by simp [execOp, e, asBool], opv_ok h tt ty y, opv_lt h tt ty y⟩
  · cases hr

def unP (ex : Bool) (op : UnOp) (p : PV) : Option (Prop × PV) :=
  match op, p with
  | .not, .bool b => some (True, .bool (!b))
  | .neg, .int k z => match ex with | true => some (InR k (0 - z), .int k (0 - z)) | false => some (True, .int k (k.wrap (0 - z)))
  | .xor, .int k z => some (True, .int k (k.wrap (BitVec.ofInt k.bits (if k.signed then -1 else k.max) ^^^ BitVec.ofInt k.bits z).toNat))
  | _, _ => none
theorem look_unOp (h : Sim n m F G env σ a w) (ex : Bool) {op : UnOp} {xT : TypeId} {x : Operand} :
    Looks P G σ w (execOp a.eval ⟨d, .unOp op xT x, ty, pos, after, none⟩) (unP ex op (opv tt env xT x)) := by
  intro c p hr hc
  have hx := opv_ok h tt xT x
  generalize opv tt env xT x = px at *
  unfold unP at hr
  split at hr
  · rename_i b
    have e := (hx.toS rfl).bool
    cases hr
    exact ⟨.bool (!b), by simp [execOp, e, Op.unary], .inr (.inl (.pl (.bool _))), trivial⟩
  · rename_i k z
    have e := (hx.toS rfl).int
    cases ex <;> cases hr
    · exact ⟨.int k (k.wrap (0 - z)), by simp [execOp, e, Op.unary, Op.intArith], .inr (.inl (.pl (.int _ _))), trivial⟩
    · exact ⟨.int k (0 - z), by simp only [execOp, e, Op.unary, Op.intArith, wrap_in hc]; rfl, .inr (.inl (.pl (.int _ _))), trivial⟩
  · rename_i k z
    have e := (hx.toS rfl).int
    cases hr
    exact ⟨_, by simp only [execOp, e, Op.unary, Op.intBits]; rfl, .inr (.inl (.pl (.int _ _))), trivial⟩
  · cases hr

def convP (ex : Bool) (tt : TT) (src dst : TypeId) (p : PV) : Option (Prop × PV) :=
  match tl tt src, tl tt dst, p with
  | some _, some ⟨.int k, _, _, _⟩, .int _ z => match ex with | true => some (InR k z, .int k z) | false => some (True, .int k (k.wrap z))
  | some _, some ⟨.string, _, _, _⟩, .str s => some (True, .str s)
  | _, _, _ => none
theorem look_convert (ht : TabOK P tt) (h : Sim n m F G env σ a w) (ex : Bool) {src dst : TypeId} {x : Operand} :
    Looks P G σ w (execOp a.eval ⟨d, .convert src dst x, ty, pos, after, none⟩) (convP ex tt src dst (opv tt env src x)) := by
  intro c p hr hc
  have hx := opv_ok h tt src x
  generalize opv tt env src x = px at *
  unfold convP at hr
  split at hr
  · rename_i i k s b zz k' z hi hk
    have e := (hx.toS rfl).int
    have h1 := (ht _ _ hi).rund w
    have h2 := (ht _ _ hk).rund w
    have hrun : (execOp a.eval ⟨d, .convert src dst x, ty, pos, after, none⟩).run P w = .ok (.value (.int k (k.wrap z))) w := by
      simp [execOp, e, convert, h1, h2, Conv.intToInt]
    cases ex <;> cases hr
    · exact ⟨_, hrun, .inr (.inl (.pl (.int _ _))), trivial⟩
    · rw [wrap_in hc] at hrun; exact ⟨_, hrun, .inr (.inl (.pl (.int _ _))), trivial⟩
  · rename_i i s' b zz1 zz s hi hk
    have e := (hx.toS rfl).str
    have h1 := (ht _ _ hi).rund w
    have h2 := (ht _ _ hk).rund w
    cases hr
    exact ⟨.string s, by simp [execOp, e, convert, h1, h2], .inr (.inl (.pl (.str _))), trivial⟩
  · cases hr

/-- A field of a struct type: where it begins, and what is known of its type. -/
def fld (tt : TT) (sT : TypeId) (f : Nat) : Option (Nat × TI) :=
  match tl tt sT with
  | some ⟨.struct fs, _, _, _⟩ => (match fs[f]? with
    | some x => (match tl tt x.type with | some i => some (x.offset, i) | none => none)
    | none => none)
  | _ => none

theorem fld_ok (ht : TabOK P tt) {sT : TypeId} {f off : Nat} {i : TI} (h : fld tt sT f = some (off, i)) :
    ∃ fs x, P.underlying sT = some (.struct fs) ∧ fs[f]? = some x ∧ x.offset = off ∧ TyOK P x.type i := by
  unfold fld at h
  split at h
  · rename_i fs s b z hs
    split at h
    · rename_i x hx
      split at h
      · rename_i j hj; cases h; exact ⟨fs, x, (ht _ _ hs).und, hx, rfl, ht _ _ hj⟩
      · cases h
    · cases h
  · cases h

def fieldAddrP (tt : TT) (sT : TypeId) (f : Nat) (p : PV) : Option (Prop × PV) :=
  match fld tt sT f, p with
  | some (off, i), .ptr b o => some (i.size ≠ 0, .ptr b (o + off))
  | some (off, i), .cref cs => some (i.size ≠ 0 ∧ off ≤ cs.length, .cref (cs.drop off))
  | _, _ => none
theorem look_fieldAddr (ht : TabOK P tt) (h : Sim n m F G env σ a w) {sT : TypeId} {f : Nat} {x : Operand} :
    Looks P G σ w (execOp a.eval ⟨d, .fieldAddr sT x f, ty, pos, after, none⟩) (fieldAddrP tt sT f (opv tt env sT x)) := by
  intro c p hr hc
  have hx := opv_ok h tt sT x
  have hlt := opv_lt h tt sT x
  generalize opv tt env sT x = px at *
  have key : ∀ (ad : Addr) (off : Nat) (i : TI), fld tt sT f = some (off, i) → i.size ≠ 0 → a.eval x = .pointer (some ad) →
      (execOp a.eval ⟨d, .fieldAddr sT x f, ty, pos, after, none⟩).run P w = .ok (.value (.pointer (some (ad.add off)))) w := by
    intro ad off i hf hi e
    obtain ⟨fs, y, h1, h2, h3, h4⟩ := fld_ok ht hf
    have h5 := h4.rsize w
    simp [execOp, e, Instr.fieldAt, underlying, h1, h2, Instr.sureAddr, fieldPlace, h5, hi, h3]
  unfold fieldAddrP at hr
  split at hr
  · rename_i off i b o hf
    have e := (hx.toS rfl).ptrv
    cases hr
    refine ⟨_, key _ off i hf hc e, ?_, by simpa [PV.lt] using hlt⟩
    rw [add_eq rfl]
    exact .inr (.inl (.ptr b (o + off)))
  · rename_i off i cs hf
    obtain ⟨ad, p', vs, e, hs, hK, hp, hv, hr'⟩ := (hx.toS rfl).crefv
    cases hr
    refine ⟨_, key ad off i hf hc.1 e, ?_, trivial⟩
    rw [add_eq hs]
    have hl := hc.2
    refine .inr (.inl (.cref ⟨ad.block, ad.off + off, none⟩ p' (cs.drop off) (fun j => vs (off + j)) rfl hK (by simp only [List.length_drop]; omega) (fun j hj => ?_) fun j c' hc' => ?_))
    · rw [List.length_drop] at hj
      have := hv (off + j) (by omega)
      rw [← Nat.add_assoc] at this; exact this
    · rw [List.getElem?_drop] at hc'; exact hr' _ _ hc'
  · cases hr

/-- A part of a row of cells, as a value of a type. -/
def partP (i : TI) (cs : List PV) (off : Nat) : Option (Prop × PV) :=
  match aggD i.desc with
  | true => some (off + i.size ≤ cs.length, .agg (bif Nat.beq off 0 && Nat.beq i.size cs.length then cs else (cs.drop off).take i.size))
  | false => match cs.drop off with
    | c :: _ => some (True, c)
    | [] => none

theorem partP_agg {i : TI} {cs : List PV} {off : Nat} (h : off + i.size ≤ cs.length) : (bif Nat.beq off 0 && Nat.beq i.size cs.length then cs else (cs.drop off).take i.size) = (cs.drop off).take i.size := by
  cases h1 : Nat.beq off 0 && Nat.beq i.size cs.length with
  | false => rfl
  | true =>
    simp only [Bool.and_eq_true] at h1
    rw [Nat.eq_of_beq_eq_true h1.1, Nat.eq_of_beq_eq_true h1.2]
    simp

def fieldP (tt : TT) (sT : TypeId) (f : Nat) (p : PV) : Option (Prop × PV) :=
  match fld tt sT f, p with
  | some (off, i), .agg cs => partP i cs off
  | _, _ => none

theorem run_part {t : TypeId} {i : TI} (ht : TyOK P t i) {vs : Array Value} {cs : List PV} (hl : vs.size = cs.length) {off : Nat} {R : Value → PV → Prop}
    (hv : ∀ (j : Nat) v c, vs[j]? = some v → cs[j]? = some c → R v c) (hagg : ∀ (us : Array Value) (ds : List PV), us.size = ds.length → (∀ (j : Nat) v c, us[j]? = some v → ds[j]? = some c → R v c) → R (.agg us) (.agg ds))
    {c : Prop} {p : PV} (hr : partP i cs off = some (c, p)) (hc : c) (w : World) : ∃ v, (part t vs off).run P w = .ok v w ∧ R v p := by
  unfold partP at hr
  have ha := ht.ragg w
  split at hr
  · rename_i hd
    cases hr
    rw [partP_agg hc]
    refine ⟨.agg (vs.extract off (off + i.size)), by simp [part, ha, hd, ht.rsize w], hagg _ _ ?_ fun j v c h1 h2 => ?_⟩
    · simp; omega
    · rw [List.getElem?_take, List.getElem?_drop] at h2
      rw [Array.getElem?_extract] at h1
      split at h2
      · rename_i hj
        refine hv (off + j) v c ?_ h2
        split at h1
        · exact h1
        · cases h1
      · cases h2
  · rename_i hd
    split at hr
    · rename_i c0 r hcs
      cases hr
      have hoff : cs[off]? = some p := by have := List.getElem?_drop (xs := cs) (i := off) (j := 0); rw [hcs] at this; simpa using this.symm
      have hlt : off < vs.size := by rw [hl]; exact (List.getElem?_eq_some_iff.1 hoff).1
      exact ⟨vs[off], by simp [part, ha, hd, hlt], hv off _ _ (by simp [hlt]) hoff⟩
    · cases hr

theorem look_field (ht : TabOK P tt) (h : Sim n m F G env σ a w) {sT : TypeId} {f : Nat} {x : Operand} :
    Looks P G σ w (execOp a.eval ⟨d, .field sT x f, ty, pos, after, none⟩) (fieldP tt sT f (opv tt env sT x)) := by
  intro c p hr hc
  have hx := opv_ok h tt sT x
  have hlt := opv_lt h tt sT x
  generalize opv tt env sT x = px at *
  unfold fieldP at hr
  split at hr
  · rename_i off i cs hf
    obtain ⟨fs, y, h1, h2, h3, h4⟩ := fld_ok ht hf
    obtain ⟨vs, e, hl, hv⟩ := (hx.toS rfl).aggv
    simp only [PV.lt] at hlt
    obtain ⟨v, hrun, hR⟩ := run_part h4 hl (R := fun v p => RepS G w v p ∧ p.lt σ.length) (fun j v c h1 h2 => ⟨hv j v c h1 h2, ltAll_iff.1 hlt c (List.mem_of_getElem? h2)⟩)
      (fun us ds hl h => ⟨.agg us ds hl fun j v c h1 h2 => (h j v c h1 h2).1, by
        simp only [PV.lt]; rw [ltAll_iff]; intro v' hv'
        obtain ⟨j, hj, rfl⟩ := List.getElem_of_mem hv'
        exact (h j us[j] ds[j] (by simp) (by simp [hj])).2⟩) hr hc w
    refine ⟨v, ?_, .inr (.inl hR.1), hR.2⟩
    simp [execOp, e, Instr.field, underlying, h1, h2, asAgg, h3, hrun]
  · cases hr

def extractP (k : Nat) (p : PV) : Option (Prop × PV) :=
  match p with
  | .tup ps => match ps[k]? with
    | some p => some (True, p)
    | none => none
  | _ => none
theorem look_extract (h : Sim n m F G env σ a w) {k : Nat} {x : Operand} : Looks P G σ w (execOp a.eval ⟨d, .extract x k, ty, pos, after, none⟩) (extractP k (opv tt env ty x)) := by
  intro c p hr hc
  have hx := opv_ok h tt ty x
  have hlt := opv_lt h tt ty x
  generalize opv tt env ty x = px at *
  unfold extractP at hr
  split at hr
  · rename_i ps
    split at hr
    · rename_i p' hp
      cases hr
      rcases hx with e | e | ⟨vs, ps', e, e', hl, hv⟩
      · cases e
      · exact e.notup.elim
      · cases e'
        have hk : k < vs.size := by rw [hl]; exact (List.getElem?_eq_some_iff.1 hp).1
        refine ⟨vs[k], by simp [execOp, e, Instr.extract, hk], ?_, ?_⟩
        · rcases hv k vs[k] p (by simp [hk]) hp with e | e
          · exact .inl e
          · exact .inr (.inl e)
        · simp only [PV.lt] at hlt; exact ltAll_iff.1 hlt p (List.mem_of_getElem? hp)
    · cases hr
  · cases hr

/-- A load from memory that does not turn. -/
def loadP (tt : TT) (t : TypeId) (p : PV) : Option (Prop × PV) :=
  match tl tt t, p with
  | some i, .cref cs => partP i cs 0
  | _, _ => none

theorem look_load (ht : TabOK P tt) (h : Sim n m F G env σ a w) {t : TypeId} {x : Operand} : Looks P G σ w (execOp a.eval ⟨d, .load t x, ty, pos, after, none⟩) (loadP tt t (opv tt env t x)) := by
  intro c p hr hc
  have hx := opv_ok h tt t x
  generalize opv tt env t x = px at *
  unfold loadP at hr
  split at hr
  · rename_i i cs hi
    obtain ⟨ad, p', vs, e, hs, hK, hp, hv, hr'⟩ := (hx.toS rfl).crefv
    have hT := ht _ _ hi
    unfold partP at hr
    split at hr
    · rename_i hd
      cases hr
      rw [partP_agg hc]
      have hl := run_loadCells (P := P) w ad i.size vs (fun j hj => by rw [add_eq hs]; exact hv j (by omega))
      refine ⟨.agg ((List.range i.size).map vs).toArray, ?_, .inr (.inl (.pl (.agg _ _ ?_ fun j v c h1 h2 => ?_))), ?_⟩
      · simp [execOp, e, Instr.loadAt, Instr.sureAddr, loadVar, hT.ragg w, hd, hT.rsize w, hl]
      · simp; omega
      · rw [List.getElem?_take, List.getElem?_drop] at h2
        split at h2
        · rename_i hj
          simp [hj] at h1
          subst h1
          have := hr' j c (by simpa using h2); simpa using this
        · cases h2
      · simp only [PV.lt]
        rw [ltAll_iff]
        intro v hv'
        have hm : v ∈ cs := List.mem_of_mem_drop (List.mem_of_mem_take hv')
        obtain ⟨j, hj, rfl⟩ := List.getElem_of_mem hm
        exact (hr' j cs[j] (by simp [hj])).lt _
    · rename_i hd
      split at hr
      · rename_i c0 r hcs
        cases hr
        have h0 : cs[0]? = some p := by rw [List.drop_zero] at hcs; rw [hcs]; rfl
        have hlt : 0 < cs.length := (List.getElem?_eq_some_iff.1 h0).1
        have hcell : w.cell? ad = some (vs 0) := by have := hv 0 hlt; rw [← add_eq hs] at this; exact this
        have hR := hr' 0 p h0
        exact ⟨vs 0, by simp [execOp, e, Instr.loadAt, Instr.sureAddr, loadVar, hT.ragg w, hd, run_load, hcell], .inr (.inl (.pl hR)), hR.lt _⟩
      · cases hr
  · cases hr

end
end Go.Proofs.Ytflgoabdgibphaa.Pv
