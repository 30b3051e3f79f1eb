/- Rows of known capacity: what stands in the way of them; elements of several cells. -/
import Derived.Test.YtflgoabdgibphaaPvZm
import Derived.Lib.Overlaps
namespace Go.Proofs.Ytflgoabdgibphaa.Pv
open Go
set_option linter.unusedVariables false
set_option linter.unusedSimpArgs false

section
variable {P : Program} {l : Option Nat} {tt : TT} {n m : Nat} {all : Array Oper} {rest : List Oper} {env : Env} {σ : Sto} {Q : Post} {d : Nat} {dd : Option Nat} {ty : TypeId} {pos : String} {after : Array Edge} {g : Option (Nat × Bool)}

theorem overlaps_none {w : World} {tS tR e : TypeId} (ht : P.underlying tS = some (.slice e)) (size : Nat) (hz : ∀ w, (Go.sizeOf e).run P w = .ok size w) (a b : Option Addr) (la ca lb cb : Nat) (h0 : la = 0 ∨ lb = 0) :
    (Extern.SlicesOverlaps.overlaps #[tS, tS] #[tR] #[.slice a la ca, .slice b lb cb]).run P w = .ok (.bool false) w := by
  have h0' : la = 0 ∨ lb = 0 ∨ size = 0 := h0.imp_right .inl
  change Sem.run P (α := Value) (do
    let some t := (#[tS, tS] : Array TypeId)[0]? | stuck "slices.overlaps: no parameter types"
    let .slice elem ← underlying t | stuck "slices.overlaps: slice type expected"
    let size ← sizeOf elem
    match (a : Option Addr), (b : Option Addr) with
    | some a, some b =>
      if la = 0 ∨ lb = 0 ∨ size = 0 then pure (Value.bool false)
      else if a.block != b.block && (← frozen a) && (← frozen b) then unsupported .addressObserved
      else do
        if a.block != b.block then do
          noView a; noView b
          if ← mayBeOne a b then return Value.bool ((← choose (.extern "sameAddr.stringBytes" 2)) == 1)
        pure (Value.bool (a.block == b.block && a.off < b.off + lb * size && b.off < a.off + la * size))
    | _, _ => pure (Value.bool false)) w = _
  cases a <;> cases b <;> simp [underlying, ht, hz, h0']

theorem overlaps_apart {w : World} {tS tR e : TypeId} (ht : P.underlying tS = some (.slice e)) (size : Nat) (hz : ∀ w, (Go.sizeOf e).run P w = .ok size w)
    (a b : Addr) (la ca lb cb : Nat) (hne : a.block ≠ b.block) (tA tB : TypeId) (kA kB : Nat)
    (hsa : w.shape? a.block = some (tA, kA)) (hsb : w.shape? b.block = some (tB, kB)) (hkA : kA ≠ 0)
    (hfb : w.frozen? b = false) (hfe : w.frozen? { block := b.block, off := kB } = false) :
    (Extern.SlicesOverlaps.overlaps #[tS, tS] #[tR] #[.slice (some a) la ca, .slice (some b) lb cb]).run P w = .ok (.bool false) w := by
  have hnb : (a.block != b.block) = true := by simpa using hne
  have hnb' : (a.block == b.block) = false := by simpa using hne
  change Sem.run P (α := Value) (do
    let some t := (#[tS, tS] : Array TypeId)[0]? | stuck "slices.overlaps: no parameter types"
    let .slice elem ← underlying t | stuck "slices.overlaps: slice type expected"
    let size ← sizeOf elem
    match (some a : Option Addr), (some b : Option Addr) with
    | some a, some b =>
      if la = 0 ∨ lb = 0 ∨ size = 0 then pure (Value.bool false)
      else if a.block != b.block && (← frozen a) && (← frozen b) then unsupported .addressObserved
      else do
        if a.block != b.block then do
          noView a; noView b
          if ← mayBeOne a b then return Value.bool ((← choose (.extern "sameAddr.stringBytes" 2)) == 1)
        pure (Value.bool (a.block == b.block && a.off < b.off + lb * size && b.off < a.off + la * size))
    | _, _ => pure (Value.bool false)) w = _
  by_cases h0 : la = 0 ∨ lb = 0 ∨ size = 0
  · simp [underlying, ht, hz, h0]
  · cases kA with
    | zero => exact absurd rfl hkA
    | succ kA =>
      cases hfa : w.frozen? a with
      | true => simp [run_underlying ht, hz, h0, hnb, hnb', frozen, noView, viewAt, mayBeOne, stringish, shape, Sem.run, hsa, hsb, hfa, hfb, hfe]
      | false =>
        cases hfa2 : w.frozen? { block := a.block, off := kA + 1 } <;>
        simp [run_underlying ht, hz, h0, hnb, hnb', frozen, noView, viewAt, mayBeOne, stringish, shape, Sem.run, hsa, hsb, hfa, hfa2, hfb, hfe]

theorem cell_shape {w : World} {b j : Nat} {v : Value} (h : w.cell? ⟨b, j, none⟩ = some v) : ∃ T k, w.shape? b = some (T, k) ∧ j < k := by
  unfold World.cell? at h
  split at h
  · rename_i c T fz hb
    simp at h
    refine ⟨T, c.size, by simp only [World.shape?]; simp only at hb; rw [hb], ?_⟩
    exact (Array.getElem?_eq_some_iff.1 h).1
  · cases h

/-- slices.overlaps, of a row that does not turn and one in a box: they are apart. -/
theorem op_overlaps (ht : TabOK P tt) {f : FuncId} {fn : Func} {x y : Operand} {tS tR : TypeId} {es cs : List PV} {i off sz len cap : Nat} {e : TI}
    (hf : P.funcs[f]? = some fn) (hname : (fn.name == "runtime.NumGoroutine") = false) (hb : fn.body.isNone = true) (hn : Extern.findNext fn = none) (hfe : Extern.find fn = some (Extern.SlicesOverlaps.overlaps #[tS, tS] #[tR]))
    (he : eti tt tS = some e) (hsz : Nat.beq e.size sz = true) (hx : opv tt env tS x = .sl .sh sz es) (hy : opv tt env tS y = .xsl i off sz len cap) (hi : σ[i]? = some (.cells cs)) (hsz0 : Nat.beq sz 0 = false) (hd : Nat.ble (d + 1) n = true)
    (h : SatOps P l n m all rest ((d, .bool false) :: env) σ Q) :
    SatOps P l n m all (⟨some d, .call ⟨.value (.func f), #[x, y], #[tS, tS]⟩, ty, pos, after, none⟩ :: rest) env σ Q := by
  refine op_gen rfl (by simp) fun F G a w hs => ?_
  have hxo := opv_ok hs tt tS x
  have hyo := opv_ok hs tt tS y
  rw [hx] at hxo
  rw [hy] at hyo
  obtain ⟨eT, hu, hT⟩ := eti_ok ht he
  obtain ⟨ax, cx, ex, hx'⟩ := ((hxo.toS rfl).slv).slv
  obtain ⟨ay, ey, c1, c3⟩ := (hyo.toS rfl).xslv
  have hagg : (isAgg tS).run P w = .ok false w := by simp [isAgg, underlying, hu]
  have hrun : ∀ v1 v2 : Value, (Extern.SlicesOverlaps.overlaps #[tS, tS] #[tR] #[v1, v2]).run P w = .ok (.bool false) w → a.eval x = v1 → a.eval y = v2 →
      (execOp a.eval ⟨some d, .call ⟨.value (.func f), #[x, y], #[tS, tS]⟩, ty, pos, after, none⟩).run P w = .ok (.value (.bool false)) w := by
    intro v1 v2 h1 e1 e2
    have h2 := run_callFunc_extern (P := P) hf hname hb hn hfe #[v1, v2] w
    rw [h1] at h2
    have hff : a.eval (.func f) = .func (.func f) #[] #[] := rfl
    simp [execOp, resolve, invoke, hff, e1, e2, Deferred.ofValue, h2]
  refine ⟨.bool false, w, G, _, σ, .inl ?_, hs.setS (ltn hd) (.pl (.bool _)) trivial, .refl _ _ _ _, h⟩
  rcases hx' with rfl | ⟨ad, p, vs, rfl, hsp, hK, hp, hc, hsz', hv, hr⟩
  · exact hrun _ _ (overlaps_none hu _ hT.rsize _ _ _ _ _ _ (.inl rfl)) ex ey
  · by_cases hl : len = 0
    · exact hrun _ _ (overlaps_none hu _ hT.rsize _ _ _ _ _ _ (.inr hl)) ex ey
    · by_cases hes : es.length = 0
      · exact hrun _ _ (overlaps_none hu _ hT.rsize _ _ _ _ _ _ (.inl hes)) ex ey
      · obtain ⟨c3, c4⟩ := c3.resolve_left (by omega)
        subst c3
        obtain ⟨hK', hsp', hcell⟩ := hs.sto i _ hi
        have hsz0' : sz ≠ 0 := fun e => by rw [e] at hsz0; cases hsz0
        have hpos : 0 < es.length * sz := Nat.mul_pos (by omega) (by omega)
        obtain ⟨T, k, hsh, hk⟩ := cell_shape (hv 0 hpos)
        refine hrun _ _ (overlaps_apart hu _ hT.rsize ad ⟨G.bs i, off, none⟩ _ _ _ _ ?_ T _ k _ hsh hsp'.sh (by omega) (hsp'.nf c4 _) (hsp'.nf c4 _)) ex ey
        intro e'
        simp only at e'
        rw [e', hK'] at hK
        cases hK

theorem equalIn_nil {w : World} {t eT : TypeId} (hu : P.underlying t = some (.slice eT)) (d : Nat) (ad : Option Addr) (ln cp : Nat) : (Op.equalIn (d + 1) t (.slice ad ln cp) (.slice none 0 0)).run P w = .ok ad.isNone w := by
  cases ad <;> simp [Op.equalIn, underlying, hu]

/-- Is a slice nil? -/
theorem op_eqNil (ht : TabOK P tt) {tS tY : TypeId} {x : Operand} {e : TI} {sz : Nat} {es : List PV} (he : eti tt tS = some e) (hx : opv tt env tS x = .sl .sh sz es) (hd : Nat.ble (d + 1) n = true)
    (h : ∀ b, (b = true → es = []) → SatOps P l n m all rest ((d, .bool b) :: env) σ Q) :
    SatOps P l n m all (⟨some d, .binOp .eql tS x (.const (.slice none 0 0)) tY, ty, pos, after, none⟩ :: rest) env σ Q := by
  refine op_gen rfl (by simp) fun F G a w hs => ?_
  have hxo := opv_ok hs tt tS x
  rw [hx] at hxo
  obtain ⟨eT, hu, hT⟩ := eti_ok ht he
  obtain ⟨ax, cx, ex, hx'⟩ := ((hxo.toS rfl).slv).slv
  have hg : (eqGuard .eql tS x (.const (.slice none 0 0)) (a.eval x) (.slice none 0 0)).run P w = .ok () w := eqGuard_plain (by simp [ex]) (by simp [ex])
  have hc : a.eval (.const (.slice none 0 0)) = .slice none 0 0 := rfl
  have hb : (binOp .eql tS (a.eval x) (.slice none 0 0)).run P w = .ok (.bool ax.isNone) w := by
    rw [ex]
    have := equalIn_nil (P := P) (w := w) hu 9999 ax es.length cx
    simp only [binOp, Op.equal, Op.maxDepth, Sem.run_bind, this, Result.andThen_ok, Sem.run_pure]
  refine ⟨.bool ax.isNone, w, G, _, σ, .inl ?_, hs.setS (ltn hd) (.pl (.bool _)) trivial, .refl _ _ _ _, h _ fun hn => ?_⟩
  · simp only [execOp, hc, Sem.run_bind, hg, Result.andThen_ok, hb, Sem.run_pure]
  · rcases hx' with h | ⟨ad, _, _, h, _⟩
    · exact h
    · rw [h] at hn; cases hn

/-- A row without elements: there is no room in it. -/
theorem op_build0X (ht : TabOK P tt) {t : TypeId} {e : TI} (he : eti tt t = some e) (hd : Nat.ble (d + 1) n = true) (h : SatOps P l n m all rest ((d, .xsl 0 0 e.size 0 0) :: env) σ Q) :
    SatOps P l n m all (⟨some d, .buildSlice t 0 #[], ty, pos, after, none⟩ :: rest) env σ Q := by
  refine op_gen rfl (by simp) fun F G a w hs => ?_
  obtain ⟨eT', hu, hT⟩ := eti_ok ht he
  have hrun : (execOp a.eval ⟨some d, .buildSlice t 0 #[], ty, pos, after, none⟩).run P w = .ok (.value (.slice (some ⟨w.heap.size, 0, none⟩) 0 0)) (w.alloc (.cells #[] eT')) := by
    have h0 : Instr.fill (fun i => some (i * e.size, e.size)) (Array.map (fun x => (default : Value)) (Array.range 0)) [] = some #[] := by simp [Instr.fill]
    simp [execOp, Instr.buildSlice, underlying, hu, hT.rsize w, newRow, h0]
  exact ⟨_, _, _, _, σ, .inl hrun, (hs.alloc (.cells #[] eT') (.imm 0)).setS (ltn hd) (.xsl _ _ _ _ _ _ (Nat.le_refl _) (.inl rfl)) (.inl rfl), Evol.alloc hs _ _ _ fun _ _ => rfl, h⟩
theorem op_nilX {e : TI} (he : eti tt ty = some e) (hd : Nat.ble (d + 1) n = true) (h : SatOps P l n m all rest ((d, .xsl 0 0 e.size 0 0) :: env) σ Q) :
    SatOps P l n m all (⟨some d, .assign (.const (.slice none 0 0)), ty, pos, after, none⟩ :: rest) env σ Q := by
  refine op_gen rfl (by simp) fun F G a w hs => ?_
  exact ⟨.slice none 0 0, w, G, _, σ, .inl rfl, hs.setS (ltn hd) (.xsl _ _ _ _ _ _ (Nat.le_refl _) (.inl rfl)) (.inl rfl), .refl _ _ _ _, h⟩

/-- A call, by what it makes of the store. -/
theorem op_callR {fo : Operand} {args : Array Operand} {ats : Array TypeId} {f : FuncId} {ps : List PV} {R : PV → Sto → Prop} (hcal : Callable P f) (hc : SatCall P f ps σ R) (hfo : fo = .func f) (hps : passL tt env args.toList ats.toList = ps) (hlen : Nat.ble args.size ats.size = true)
    (htup : ps.all (fun p => !p.isTup) = true) (hd : Nat.ble (d + 1) n = true) (h : ∀ r σ', R r σ' → SatOps P l n m all rest ((d, r) :: env) σ' Q) :
    SatOps P l n m all (⟨some d, .call ⟨.value fo, args, ats⟩, ty, pos, after, none⟩ :: rest) env σ Q :=
  op_call (tt := tt) hcal (as := []) (bs := []) (by rw [hfo]; rfl) (by rw [List.nil_append, List.append_nil, hps]) (Nat.le_of_ble_eq_true hlen) htup hc (ltn hd) h

theorem flat_at {α : Type} [Inhabited α] {f : α → PV} {sz : Nat} (hf : ∀ x, (f x).cells.length = sz) {xs : List α} {rs : List PV} {j : Nat} (hj : j < xs.length) :
    ((flat (xs.map f) ++ rs).drop (j * sz)).take sz = (f (xs.getD j default)).cells := by
  have hz : ∀ e ∈ xs.map f, e.cells.length = sz := fun e he => by obtain ⟨x, _, rfl⟩ := List.mem_map.1 he; exact hf x
  have hl := flat_length hz
  rw [List.length_map] at hl
  have hmul : j * sz + sz ≤ xs.length * sz := by rw [← Nat.succ_mul]; exact Nat.mul_le_mul_right _ hj
  refine List.ext_getElem? fun k => ?_
  rw [List.getElem?_take, List.getElem?_drop]
  have hx : (xs.map f)[j]? = some (f (xs.getD j default)) := by simp [List.getD, hj]
  split
  · rename_i hk
    rw [List.getElem?_append_left (by omega), flat_get hz hx k hk]
  · rename_i hk
    rw [List.getElem?_eq_none (by rw [hf]; omega)]

theorem flat_put {α : Type} {f : α → PV} {sz : Nat} (hf : ∀ x, (f x).cells.length = sz) {xs : List α} {rs : List PV} {j : Nat} {v : α} (hj : j < xs.length) :
    putAt (flat (xs.map f) ++ rs) (j * sz) (f v).cells = flat ((xs.set j v).map f) ++ rs := by
  have hz : ∀ (l : List α), ∀ e ∈ l.map f, e.cells.length = sz := fun l e he => by obtain ⟨x, _, rfl⟩ := List.mem_map.1 he; exact hf x
  have hl := flat_length (hz xs)
  have hl2 := flat_length (hz (xs.set j v))
  rw [List.length_map] at hl hl2
  rw [List.length_set] at hl2
  have hmul : j * sz + sz ≤ xs.length * sz := by rw [← Nat.succ_mul]; exact Nat.mul_le_mul_right _ hj
  obtain ⟨q1, q2⟩ := putAt_get (flat (xs.map f) ++ rs) (j * sz) (f v).cells (by rw [hf, List.length_append]; omega)
  refine List.ext_getElem? fun k => ?_
  rw [q2, hf]
  by_cases hk : k < xs.length * sz
  · rw [List.getElem?_append_left (by omega), List.getElem?_append_left (by omega)]
    have hsz : 0 < sz := by
      rcases Nat.eq_zero_or_pos sz with h | h
      · rw [h] at hk; omega
      · exact h
    obtain ⟨i, r, hr, rfl⟩ : ∃ i r, r < sz ∧ k = i * sz + r := ⟨k / sz, k % sz, Nat.mod_lt _ hsz, by rw [Nat.mul_comm]; exact (Nat.div_add_mod k sz).symm⟩
    have hi : i < xs.length := by
      rcases Nat.lt_or_ge i xs.length with h | h
      · exact h
      · have := Nat.mul_le_mul_right sz h; omega
    have h1 : ((xs.set j v).map f)[i]? = some (f (if j = i then v else xs[i])) := by
      rw [List.getElem?_map, List.getElem?_set]
      by_cases e : j = i
      · subst e; simp [hj]
      · simp [e, hi]
    rw [flat_get (hz _) h1 r hr]
    by_cases e : j = i
    · subst e
      rw [if_pos ⟨by omega, by omega⟩, if_pos rfl, Nat.add_sub_cancel_left]
    · rw [if_neg e, if_neg]
      · rw [flat_get (hz _) (i := i) (e := f xs[i]) (by simp [hi]) r hr]
      · rintro ⟨g1, g2⟩
        rcases Nat.lt_or_ge i j with h | h
        · have := Nat.mul_le_mul_right sz (Nat.succ_le_of_lt h); rw [Nat.succ_mul] at this; omega
        · have := Nat.mul_le_mul_right sz (Nat.succ_le_of_lt (Nat.lt_of_le_of_ne h e)); rw [Nat.succ_mul] at this; omega
  · rw [if_neg (by omega), List.getElem?_append_right (by omega), List.getElem?_append_right (by omega), hl, hl2]

/-- An element is read. -/
theorem lk_loadV {α : Type} [Inhabited α] (f : α → PV) (ht : TabOK P tt) {t : TypeId} {x : Operand} {i j sz : Nat} {ti : TI} {xs : List α} {rs : List PV} (hx : opv tt env t x = .ptr i (0 + j * sz)) (hti : tl tt t = some ti) (hsz : Nat.beq ti.size sz = true) (hagg : aggD ti.desc = true)
    (hi : σ[i]? = some (.cells (flat (xs.map f) ++ rs))) (hf : ∀ x, (f x).cells.length = sz) (hS : ∀ x, ((f x).cells.map shr1).all PV.isS = true) (hfa : ∀ x, PV.agg ((f x).cells.map shr1) = f x) (hlt : j < xs.length) :
    LookAt P n m env σ ⟨dd, .load t x, ty, pos, after, g⟩ (f (xs.getD j default)) := by
  rw [← hfa]
  have hsz := Nat.eq_of_beq_eq_true hsz
  have hz : ∀ e ∈ xs.map f, e.cells.length = sz := fun e he => by obtain ⟨x, _, rfl⟩ := List.mem_map.1 he; exact hf x
  have hl := flat_length hz
  rw [List.length_map] at hl
  have hmul : j * sz + sz ≤ xs.length * sz := by rw [← Nat.succ_mul]; exact Nat.mul_le_mul_right _ hlt
  refine lk_loadB ht hx hti hi (c := 0 + j * sz + ti.size ≤ (flat (xs.map f) ++ rs).length) ?_ (by rw [List.length_append]; omega)
  unfold loadB
  rw [hagg, hsz, Nat.zero_add, flat_at hf hlt, hS]

/-- An element's cell is read. -/
theorem lk_loadVf {α : Type} [Inhabited α] (f : α → PV) (ht : TabOK P tt) {t : TypeId} {x : Operand} {i j sz o : Nat} {ti : TI} {xs : List α} {rs : List PV} {p : PV} (hx : opv tt env t x = .ptr i (0 + j * sz + o)) (hti : tl tt t = some ti) (hagg : aggD ti.desc = false)
    (hi : σ[i]? = some (.cells (flat (xs.map f) ++ rs))) (hf : ∀ x, (f x).cells.length = sz) (ho : Nat.ble (o + 1) sz = true) (hlt : j < xs.length) (hp : shr1 ((f (xs.getD j default)).cells.getD o .dead) = p) (hS : p.isS = true) :
    LookAt P n m env σ ⟨dd, .load t x, ty, pos, after, g⟩ p := by
  have ho := Nat.le_of_ble_eq_true ho
  refine lk_loadB ht hx hti hi (c := True) ?_ trivial
  have h1 : (flat (xs.map f) ++ rs)[0 + j * sz + o]? = some ((f (xs.getD j default)).cells.getD o .dead) := by
    have h2 := congrArg (·[o]?) (flat_at (rs := rs) hf hlt)
    simp only [List.getElem?_take, if_pos (show o < sz by omega), List.getElem?_drop] at h2
    rw [Nat.zero_add, h2]
    have h3 : o < (f (xs.getD j default)).cells.length := by rw [hf]; omega
    rw [List.getElem?_eq_getElem h3]
    generalize (f (xs.getD j default)).cells = L at h3 ⊢
    simp [List.getD, h3]
  unfold loadB
  rw [hagg]
  obtain ⟨r, hr⟩ : ∃ r, (flat (xs.map f) ++ rs).drop (0 + j * sz + o) = (f (xs.getD j default)).cells.getD o .dead :: r := ⟨_, drop_cons h1⟩
  simp only [hr, hp, hS]

/-- An element is written. -/
theorem op_storeV {α : Type} (f : α → PV) (ht : TabOK P tt) {t : TypeId} {x y : Operand} {i j sz : Nat} {ti : TI} {xs : List α} {rs : List PV} {v : α} (hx : opv tt env t x = .ptr i (0 + j * sz)) (hti : tl tt t = some ti) (hsz : Nat.beq ti.size sz = true)
    (hi : σ[i]? = some (.cells (flat (xs.map f) ++ rs))) (hf : ∀ x, (f x).cells.length = sz) (hy : opv tt env t y = f v) (hS : (f v).isS = true) (h1 : (f v).cells.all PV.one = true) (hlt : j < xs.length)
    (h : SatOps P l n m all rest env (σ.set i (.cells (flat ((xs.set j v).map f) ++ rs))) Q) : SatOps P l n m all (⟨none, .store t x y, ty, pos, after, none⟩ :: rest) env σ Q := by
  have hsz := Nat.eq_of_beq_eq_true hsz
  have hz : ∀ e ∈ xs.map f, e.cells.length = sz := fun e he => by obtain ⟨x, _, rfl⟩ := List.mem_map.1 he; exact hf x
  have hl := flat_length hz
  rw [List.length_map] at hl
  have hmul : j * sz + sz ≤ xs.length * sz := by rw [← Nat.succ_mul]; exact Nat.mul_le_mul_right _ hlt
  refine op_storeB ht hx hti hi hy hS (by rw [hf, hsz]) h1 (by rw [List.length_append]; omega) ?_
  rw [Nat.zero_add, flat_put hf hlt]; exact h

end
end Go.Proofs.Ytflgoabdgibphaa.Pv
