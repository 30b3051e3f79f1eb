/- Indexes, pieces, lengths, structs that are built. -/
import Derived.Test.YtflgoabdgibphaaPvF
namespace Go.Proofs.Ytflgoabdgibphaa.Pv
open Go
set_option linter.unusedVariables false
set_option linter.unusedSimpArgs false

theorem flat_get {es : List PV} {sz : Nat} (h : ∀ e ∈ es, e.cells.length = sz) : ∀ {i : Nat} {e : PV}, es[i]? = some e → ∀ j, j < sz → (flat es)[i * sz + j]? = e.cells[j]? := by
  induction es with
  | nil => intro i e he; simp at he
  | cons e0 r ih =>
    intro i e he j hj
    have h0 : e0.cells.length = sz := h e0 (by simp)
    cases i with
    | zero =>
      simp only [List.getElem?_cons_zero, Option.some.injEq] at he
      subst he
      simp only [flat, Nat.zero_mul, Nat.zero_add]
      rw [List.getElem?_append_left (by omega)]
    | succ i =>
      simp only [List.getElem?_cons_succ] at he
      simp only [flat]
      rw [List.getElem?_append_right (by rw [h0, Nat.succ_mul]; omega), h0]
      rw [show (i + 1) * sz + j - sz = i * sz + j by rw [Nat.succ_mul]; omega]
      exact ih (fun x hx => h x (by simp [hx])) he j hj

theorem flat_append (xs ys : List PV) : flat (xs ++ ys) = flat xs ++ flat ys := by
  induction xs with
  | nil => rfl
  | cons e r ih => simp [flat, ih]

theorem flat_drop {es : List PV} {sz : Nat} (h : ∀ e ∈ es, e.cells.length = sz) (l : Nat) : flat (es.drop l) = (flat es).drop (l * sz) := by
  induction l generalizing es with
  | zero => simp
  | succ l ih =>
    cases es with
    | nil => simp [flat]
    | cons e r =>
      simp only [List.drop_succ_cons, flat]
      rw [ih (fun x hx => h x (by simp [hx])), Nat.succ_mul, Nat.add_comm (l * sz) sz, ← h e (by simp)]
      rw [List.drop_append]
      simp [Nat.add_sub_cancel_left]

theorem flat_take {es : List PV} {sz : Nat} (h : ∀ e ∈ es, e.cells.length = sz) (l : Nat) : flat (es.take l) = (flat es).take (l * sz) := by
  induction l generalizing es with
  | zero => simp [flat]
  | succ l ih =>
    cases es with
    | nil => simp [flat]
    | cons e r =>
      simp only [List.take_succ_cons, flat]
      rw [ih (fun x hx => h x (by simp [hx])), Nat.succ_mul, Nat.add_comm (l * sz) sz, ← h e (by simp)]
      have e1 : List.take (e.cells.length + l * e.cells.length) e.cells = e.cells := List.take_of_length_le (by omega)
      rw [List.take_append, e1]
      simp [Nat.add_sub_cancel_left]

section
variable {P : Program} {tt : TT} {n m : Nat} {F : Nat → Prop} {G : Gh} {env : Env} {σ : Sto} {a : Act} {w : World} {d : Option Nat} {ty : TypeId} {pos : String} {after : Array Edge}

theorem eti_ok (ht : TabOK P tt) {t : TypeId} {i : TI} (h : eti tt t = some i) : ∃ e, P.underlying t = some (.slice e) ∧ TyOK P e i := by
  unfold eti at h
  split at h
  · rename_i e s b z hs; exact ⟨e, (ht _ _ hs).und, ht _ _ h⟩
  · cases h

/-- An array type's length and its elements. -/
def ati (tt : TT) (t : TypeId) : Option (Nat × TI) :=
  match tl tt t with
  | some ⟨.array k e, _, _, _⟩ => match tl tt e with
    | some i => some (k, i)
    | none => none
  | _ => none
theorem ati_ok (ht : TabOK P tt) {t : TypeId} {k : Nat} {i : TI} (h : ati tt t = some (k, i)) : ∃ e, P.underlying t = some (.array k e) ∧ TyOK P e i := by
  unfold ati at h
  split at h
  · rename_i k' e s b z hs
    split at h
    · rename_i i' he; cases h; exact ⟨e, (ht _ _ hs).und, ht _ _ he⟩
    · cases h
  · cases h

def indexAddrP (tt : TT) (t : TypeId) (x i : PV) : Option (Prop × PV) :=
  match i with
  | .int _ i => (match x with
    | .sl .sh sz es => (match eti tt t with
      | some e => some (sz = e.size ∧ 0 ≤ i ∧ i < es.length, .cref (es.getD i.toNat .dead).cells)
      | none => none)
    | .bsl b off sz len cap => (match eti tt t with
      | some e => some (sz = e.size ∧ 0 ≤ i ∧ i < len, .ptr b (off + i.toNat * sz))
      | none => none)
    | .xsl b off sz len cap => (match eti tt t with
      | some e => some (sz = e.size ∧ 0 ≤ i ∧ i < len, .ptr b (off + i.toNat * sz))
      | none => none)
    | .ptr b off => (match ati tt t with
      | some (k, e) => some (0 ≤ i ∧ i < k, .ptr b (off + i.toNat * e.size))
      | none => none)
    | _ => none)
  | _ => none

theorem look_indexAddr (ht : TabOK P tt) (h : Sim n m F G env σ a w) {t tI : TypeId} {x i : Operand} :
    Looks P G σ w (execOp a.eval ⟨d, .indexAddr t x i, ty, pos, after, none⟩) (indexAddrP tt t (opv tt env t x) (opv tt env tI i)) := by
  intro c p hr hc
  have hx := opv_ok h tt t x
  have hxl := opv_lt h tt t x
  have hi := opv_ok h tt tI i
  generalize opv tt env t x = px at *
  generalize opv tt env tI i = pi at *
  unfold indexAddrP at hr
  split at hr
  · rename_i k z
    have ei := (hi.toS rfl).int
    split at hr
    · rename_i sz es
      split at hr
      · rename_i e he
        obtain ⟨eT, h1, h2⟩ := eti_ok ht he
        cases hr
        obtain ⟨hsz, h3, h4⟩ := hc
        obtain ⟨av, cap, ev, hes⟩ := ((hx.toS rfl).slv).slv
        rcases hes with rfl | ⟨ad, p', vs, rfl, hs, hK, hp, hcap, hz, hv, hr'⟩
        · simp at h4; omega
        · have hlt : z.toNat < es.length := by omega
          have hmul : z.toNat * sz + sz ≤ es.length * sz := by rw [← Nat.succ_mul]; exact Nat.mul_le_mul_right _ hlt
          have hel : (es.getD z.toNat .dead) = es[z.toNat] := by simp [List.getD, hlt]
          have hlen : es[z.toNat].cells.length = sz := hz _ (List.getElem_mem hlt)
          refine ⟨.pointer (some (ad.add (z.toNat * sz))), ?_, .inr (.inl ?_), trivial⟩
          · simp [execOp, ei, ev, Instr.indexAt, asIntOf, underlying, h1, h3, h4, h2.rsize w, ← hsz]
          · rw [add_eq hs, hel]
            refine .cref ⟨ad.block, ad.off + z.toNat * sz, none⟩ p' _ (fun j => vs (z.toNat * sz + j)) rfl hK (by rw [hlen]; simp only; omega) (fun j hj => ?_) fun j c hc => ?_
            · rw [hlen] at hj
              have := hv (z.toNat * sz + j) (by omega)
              rw [← Nat.add_assoc] at this; exact this
            · have hj : j < sz := by rw [← hlen]; exact (List.getElem?_eq_some_iff.1 hc).1
              refine hr' _ _ ?_
              rw [flat_get hz (i := z.toNat) (e := es[z.toNat]) (by simp [hlt]) j hj]; exact hc
      · cases hr
    · rename_i b off sz len cap
      split at hr
      · rename_i e he
        obtain ⟨eT, h1, h2⟩ := eti_ok ht he
        cases hr
        obtain ⟨hsz, h3, h4⟩ := hc
        obtain ⟨off2, cap2, ev, hcap, _, ho⟩ := (hx.toS rfl).bslv
        have ho := ho.resolve_left (by omega)
        subst ho
        refine ⟨.pointer (some ⟨G.bs b, off + z.toNat * sz, none⟩), ?_, .inr (.inl (.ptr _ _)), by simpa [PV.lt] using hxl⟩
        simp [execOp, ei, ev, Instr.indexAt, asIntOf, underlying, h1, h3, h4, h2.rsize w, ← hsz, add_eq]
      · cases hr
    · rename_i b off sz len cap
      split at hr
      · rename_i e he
        obtain ⟨eT, h1, h2⟩ := eti_ok ht he
        cases hr
        obtain ⟨hsz, h3, h4⟩ := hc
        obtain ⟨off2, ev, hcap, ho⟩ := (hx.toS rfl).xslv
        obtain ⟨ho, _⟩ := ho.resolve_left (by omega)
        subst ho
        refine ⟨.pointer (some ⟨G.bs b, off + z.toNat * sz, none⟩), ?_, .inr (.inl (.ptr _ _)), by simp only [PV.lt] at hxl ⊢; omega⟩
        simp [execOp, ei, ev, Instr.indexAt, asIntOf, underlying, h1, h3, h4, h2.rsize w, ← hsz, add_eq]
      · cases hr
    · rename_i b off
      split at hr
      · rename_i k' e he
        obtain ⟨eT, h1, h2⟩ := ati_ok ht he
        cases hr
        obtain ⟨h3, h4⟩ := hc
        have ev := (hx.toS rfl).ptrv
        refine ⟨.pointer (some ⟨G.bs b, off + z.toNat * e.size, none⟩), ?_, .inr (.inl (.ptr _ _)), by simpa [PV.lt] using hxl⟩
        simp [execOp, ei, ev, Instr.indexAt, asIntOf, underlying, h1, h3, h4, h2.rsize w, Instr.sureAddr, add_eq]
      · cases hr
    · cases hr
  · cases hr

/-- The byte of a text in a place. -/
def bt (s : ByteArray) (i : Int) : Int := ((s.data.toList.getD i.toNat 0).toNat : Int)

def indexP (tt : TT) (t : TypeId) (x i : PV) : Option (Prop × PV) :=
  match i with
  | .int _ i => (match x with
    | .str s => (match tl tt t with
      | some ⟨.string, _, _, _⟩ => some (0 ≤ i ∧ i < s.size, .int .u8 (bt s i))
      | _ => none)
    | .agg cs => (match ati tt t with
      | some (k, e) => (match aggD e.desc with
        | false => some (0 ≤ i ∧ i < k ∧ e.size = 1 ∧ k ≤ cs.length, cs.getD i.toNat .dead)
        | true => some (0 ≤ i ∧ i < k ∧ k * e.size ≤ cs.length, .agg ((cs.drop (i.toNat * e.size)).take e.size)))
      | none => none)
    | _ => none)
  | _ => none

theorem look_index (ht : TabOK P tt) (h : Sim n m F G env σ a w) {t tI : TypeId} {x i : Operand} :
    Looks P G σ w (execOp a.eval ⟨d, .index t x i, ty, pos, after, none⟩) (indexP tt t (opv tt env t x) (opv tt env tI i)) := by
  intro c p hr hc
  have hx := opv_ok h tt t x
  have hxl := opv_lt h tt t x
  have hi := opv_ok h tt tI i
  generalize opv tt env t x = px at *
  generalize opv tt env tI i = pi at *
  unfold indexP at hr
  split at hr
  · rename_i k z
    have ei := (hi.toS rfl).int
    split at hr
    · rename_i s
      split at hr
      · rename_i sz b zz hs
        have hu := (ht _ _ hs).und
        have ev := (hx.toS rfl).str
        cases hr
        obtain ⟨h3, h4⟩ := hc
        have hlt : z.toNat < s.size := by omega
        refine ⟨.int .u8 (bt s z), ?_, .inr (.inl (.pl (.int _ _))), trivial⟩
        have hb : s[z.toNat]? = some s[z.toNat] := by simp [hlt]
        have hb2 : bt s z = (s[z.toNat].toNat : Int) := by
          have hlt' : z.toNat < s.data.size := hlt
          simp [bt, List.getD, hlt', ByteArray.getElem_eq_getElem_data, Array.getElem?_eq_getElem hlt']
        simp [execOp, ei, ev, Instr.index, asIntOf, underlying, hu, h3, hb, hb2]
      · cases hr
    · rename_i cs
      split at hr
      · rename_i k' e he
        obtain ⟨eT, h1, h2⟩ := ati_ok ht he
        obtain ⟨vs, ev, hl, hv⟩ := (hx.toS rfl).aggv
        simp only [PV.lt] at hxl
        split at hr
        · rename_i hd
          cases hr
          obtain ⟨h3, h4, h5, h6⟩ := hc
          have hlt : z.toNat < cs.length := by omega
          have hel : (cs.getD z.toNat .dead) = cs[z.toNat] := by simp [List.getD, hlt]
          rw [hel]
          refine ⟨vs[z.toNat]'(by omega), ?_, .inr (.inl (hv z.toNat _ _ (by simp [hl, hlt]) (by simp [hlt]))), ltAll_iff.1 hxl _ (List.getElem_mem hlt)⟩
          simp [execOp, ei, ev, Instr.index, asIntOf, underlying, h1, h3, h4, h2.rsize w, h5, part, h2.ragg w, hd, hl, hlt]
        · rename_i hd
          cases hr
          obtain ⟨h3, h4, h6⟩ := hc
          have hmul : z.toNat * e.size + e.size ≤ k' * e.size := by rw [← Nat.succ_mul]; exact Nat.mul_le_mul_right _ (by omega)
          refine ⟨.agg (vs.extract (z.toNat * e.size) (z.toNat * e.size + e.size)), ?_, .inr (.inl (.agg _ _ ?_ fun j v c h1' h2' => ?_)), ?_⟩
          · simp [execOp, ei, ev, Instr.index, asIntOf, underlying, h1, h3, h4, h2.rsize w, part, h2.ragg w, hd]
          · simp; omega
          · rw [List.getElem?_take, List.getElem?_drop] at h2'
            rw [Array.getElem?_extract] at h1'
            split at h2'
            · refine hv (z.toNat * e.size + j) v c ?_ h2'
              split at h1'
              · exact h1'
              · cases h1'
            · cases h2'
          · simp only [PV.lt]; rw [ltAll_iff]; intro v hv'
            exact ltAll_iff.1 hxl v (List.mem_of_mem_drop (List.mem_of_mem_take hv'))
      · cases hr
    · cases hr
  · cases hr

def lenP (tt : TT) (t : TypeId) (x : PV) : Option (Prop × PV) :=
  match tl tt t with
  | some ⟨.string, _, _, _⟩ => (match x with | .str s => some (True, .int .i64 s.size) | _ => none)
  | some ⟨.array k _, _, _, _⟩ => some (True, .int .i64 k)
  | some ⟨.slice _, _, _, _⟩ => (match x with | .sl .sh _ es => some (True, .int .i64 es.length) | .bsl _ _ _ len _ => some (True, .int .i64 len) | .xsl _ _ _ len _ => some (True, .int .i64 len) | _ => none)
  | some ⟨.pointer e, _, _, _⟩ => (match tl tt e with | some ⟨.array k _, _, _, _⟩ => some (True, .int .i64 k) | _ => none)
  | _ => none
theorem look_len (ht : TabOK P tt) (h : Sim n m F G env σ a w) {t : TypeId} {x : Operand} :
    Looks P G σ w (execOp a.eval ⟨d, .call ⟨.builtin .len, #[x], #[t]⟩, ty, pos, after, none⟩) (lenP tt t (opv tt env t x)) := by
  intro c p hr hc
  have hx := opv_ok h tt t x
  generalize opv tt env t x = px at *
  have key : ∀ v, (Builtin.len_ #[t] ty #[a.eval x]).run P w = .ok v w → (execOp a.eval ⟨d, .call ⟨.builtin .len, #[x], #[t]⟩, ty, pos, after, none⟩).run P w = .ok (.value v) w := by
    intro v hv
    simp [execOp, resolve, invoke, builtin, hv]
  unfold lenP at hr
  split at hr
  · rename_i hs
    have hu := (ht _ _ hs).und
    split at hr
    · have ev := (hx.toS rfl).str
      cases hr
      exact ⟨_, key _ (by simp [Builtin.len_, underlying, hu, ev, goInt]), .inr (.inl (.pl (.int _ _))), trivial⟩
    · cases hr
  · rename_i hs
    have hu := (ht _ _ hs).und
    cases hr
    exact ⟨_, key _ (by simp [Builtin.len_, underlying, hu, goInt]), .inr (.inl (.pl (.int _ _))), trivial⟩
  · rename_i hs
    have hu := (ht _ _ hs).und
    split at hr
    · obtain ⟨av, cap, ev, _⟩ := ((hx.toS rfl).slv).slv
      cases hr
      exact ⟨_, key _ (by simp [Builtin.len_, underlying, hu, ev, goInt]), .inr (.inl (.pl (.int _ _))), trivial⟩
    · obtain ⟨_, _, ev, _⟩ := (hx.toS rfl).bslv
      cases hr
      exact ⟨_, key _ (by simp [Builtin.len_, underlying, hu, ev, goInt]), .inr (.inl (.pl (.int _ _))), trivial⟩
    · obtain ⟨_, ev, _⟩ := (hx.toS rfl).xslv
      cases hr
      exact ⟨_, key _ (by simp [Builtin.len_, underlying, hu, ev, goInt]), .inr (.inl (.pl (.int _ _))), trivial⟩
    · cases hr
  · rename_i hs
    have hu := (ht _ _ hs).und
    split at hr
    · rename_i hs'
      have hu' := (ht _ _ hs').und
      cases hr
      exact ⟨_, key _ (by simp [Builtin.len_, underlying, hu, hu', goInt]), .inr (.inl (.pl (.int _ _))), trivial⟩
    · cases hr
  · cases hr

def maxP (mx : Bool) (x y : PV) : Option (Prop × PV) :=
  match x, y with
  | .int k x, .int _ y => some (True, .int k (match mx with | true => max x y | false => min x y))
  | _, _ => none
theorem look_max (h : Sim n m F G env σ a w) {t1 t2 : TypeId} {x y : Operand} :
    Looks P G σ w (execOp a.eval ⟨d, .call ⟨.builtin .max, #[x, y], #[t1, t2]⟩, ty, pos, after, none⟩) (maxP true (opv tt env t1 x) (opv tt env t2 y)) := by
  intro c p hr hc
  have hx := opv_ok h tt t1 x
  have hy := opv_ok h tt t2 y
  generalize opv tt env t1 x = px at *
  generalize opv tt env t2 y = py at *
  unfold maxP at hr
  split at hr
  · rename_i k x' k' y'
    have ex' := (hx.toS rfl).int
    have ey' := (hy.toS rfl).int
    cases hr
    refine ⟨.int k (max x' y'), ?_, .inr (.inl (.pl (.int _ _))), trivial⟩
    have hm : (if x' < y' then y' else x') = max x' y' := by rw [Int.max_def]; split <;> split <;> omega
    simp [execOp, resolve, invoke, builtin, Builtin.max_, Builtin.max2, ex', ey', hm]
  · cases hr
theorem look_min (h : Sim n m F G env σ a w) {t1 t2 : TypeId} {x y : Operand} :
    Looks P G σ w (execOp a.eval ⟨d, .call ⟨.builtin .min, #[x, y], #[t1, t2]⟩, ty, pos, after, none⟩) (maxP false (opv tt env t1 x) (opv tt env t2 y)) := by
  intro c p hr hc
  have hx := opv_ok h tt t1 x
  have hy := opv_ok h tt t2 y
  generalize opv tt env t1 x = px at *
  generalize opv tt env t2 y = py at *
  unfold maxP at hr
  split at hr
  · rename_i k x' k' y'
    have ex' := (hx.toS rfl).int
    have ey' := (hy.toS rfl).int
    cases hr
    refine ⟨.int k (min x' y'), ?_, .inr (.inl (.pl (.int _ _))), trivial⟩
    have hm : (if y' < x' then y' else x') = min x' y' := by rw [Int.min_def]; split <;> split <;> omega
    simp [execOp, resolve, invoke, builtin, Builtin.min_, Builtin.min2, ex', ey', hm]
  · cases hr

end
end Go.Proofs.Ytflgoabdgibphaa.Pv
