/- The rules for rows of known capacity, in the form in which the walk uses them. -/
import Derived.Test.YtflgoabdgibphaaPvZn
namespace Go.Proofs.Ytflgoabdgibphaa.Pv
open Go
set_option linter.unusedVariables false
set_option linter.unusedSimpArgs false

/-- The rest of a row's room. -/
abbrev room (d : Nat) : List PV := List.replicate d .dead

theorem putAt_mid : ∀ (A B C B' : List PV), B'.length = B.length → putAt (A ++ B ++ C) A.length B' = A ++ B' ++ C
  | [], B, C, B', h => by
    simp only [List.nil_append, List.length_nil]
    induction B generalizing B' with
    | nil => rw [List.length_eq_zero_iff.1 h]; exact putAt_nil _ _
    | cons b B ih =>
      cases B' with
      | nil => simp at h
      | cons b' B' =>
        simp only [List.length_cons, Nat.add_right_cancel_iff] at h
        simp only [List.cons_append, putAt, ih B' h]
  | a :: A, B, C, B', h => by
    cases B' with
    | nil =>
      have : B = [] := List.length_eq_zero_iff.1 h.symm
      subst this; exact putAt_nil _ _
    | cons b' B' =>
      simp only [List.cons_append, List.length_cons, putAt]
      rw [← putAt_mid A B C (b' :: B') h]
/-- .. where the parts are told. -/
theorem putAt_eq {l A B C B' : List PV} {o : Nat} (hl : l = A ++ B ++ C) (ho : o = A.length) (h : B'.length = B.length) : putAt l o B' = A ++ B' ++ C := by rw [hl, ho]; exact putAt_mid A B C B' h

theorem room_add (a b : Nat) : room (a + b) = room a ++ room b := by rw [room, room, room, List.replicate_append_replicate]

/-- Something put in between. -/
def insI {α : Type} (xs : List α) (i : Nat) (v : α) : List α := xs.take i ++ v :: xs.drop i
theorem insI_len {α : Type} (xs : List α) (i : Nat) (v : α) : (insI xs i v).length = xs.length + 1 := by simp [insI]; omega

section
variable {α : Type} {f : α → PV} {sz : Nat}
theorem fl_len (hf : ∀ x, (f x).cells.length = sz) (xs : List α) : (flat (xs.map f)).length = xs.length * sz := by
  have := flat_length (es := xs.map f) (sz := sz) (fun e he => by obtain ⟨x, _, rfl⟩ := List.mem_map.1 he; exact hf x)
  rw [this, List.length_map]
theorem fl_app (xs ys : List α) : flat ((xs ++ ys).map f) = flat (xs.map f) ++ flat (ys.map f) := by rw [List.map_append, flat_append]
theorem fl_split (xs : List α) (i : Nat) : flat (xs.map f) = flat ((xs.take i).map f) ++ flat ((xs.drop i).map f) := by rw [← fl_app, List.take_append_drop]
theorem fl_one (v : α) : flat ([v].map f) = (f v).cells := by simp [flat]
theorem fl_take (hf : ∀ x, (f x).cells.length = sz) (xs : List α) (i : Nat) : (flat (xs.map f)).take (i * sz) = flat ((xs.take i).map f) := by
  rw [List.map_take, flat_take fun e he => by obtain ⟨x, _, rfl⟩ := List.mem_map.1 he; exact hf x]
theorem fl_drop (hf : ∀ x, (f x).cells.length = sz) (xs : List α) (i : Nat) : (flat (xs.map f)).drop (i * sz) = flat ((xs.drop i).map f) := by
  rw [List.map_drop, flat_drop fun e he => by obtain ⟨x, _, rfl⟩ := List.mem_map.1 he; exact hf x]

theorem room_succ {a b : Nat} (h : a = b + 1) : room (a * sz) = room sz ++ room (b * sz) := by rw [← room_add, h, Nat.succ_mul, Nat.add_comm]
theorem room_plus {a b c : Nat} (h : a = b + c) : room (a * sz) = room (b * sz) ++ room (c * sz) := by rw [← room_add, h, Nat.add_mul]
theorem fl_ins (xs : List α) (i : Nat) (v : α) : flat ((insI xs i v).map f) = flat ((xs.take i).map f) ++ flat ([v].map f) ++ flat ((xs.drop i).map f) := by
  rw [insI, show v :: xs.drop i = [v] ++ xs.drop i from rfl, ← List.append_assoc, fl_app, fl_app]
theorem fl_vlen (hf : ∀ x, (f x).cells.length = sz) (v : α) : (flat ([v].map f)).length = sz := by rw [fl_one, hf]
theorem room_len (d : Nat) : (room d).length = d := List.length_replicate

/-- At the end, where there is room. -/
theorem put_end (hf : ∀ x, (f x).cells.length = sz) {xs : List α} {v : α} {c : Nat} (hc : xs.length + 1 ≤ c) :
    putAt (flat (xs.map f) ++ room ((c - xs.length) * sz)) (0 + xs.length * sz) (flat ([v].map f)) = flat ((insI xs xs.length v).map f) ++ room ((c - (xs.length + 1)) * sz) := by
  have e1 : putAt (flat (xs.map f) ++ room ((c - xs.length) * sz)) (0 + xs.length * sz) (flat ([v].map f)) = flat (xs.map f) ++ flat ([v].map f) ++ room ((c - (xs.length + 1)) * sz) :=
    putAt_eq (B := room sz) (by rw [room_succ (show c - xs.length = (c - (xs.length + 1)) + 1 by omega), List.append_assoc]) (by rw [fl_len hf]; omega) (by rw [fl_vlen hf, room_len])
  rw [e1, fl_ins, List.take_length, List.drop_length, List.map_nil]
  simp [flat]
/-- In a new row. -/
theorem put_new (hf : ∀ x, (f x).cells.length = sz) {xs : List α} {v : α} {c i : Nat} (hi : i < xs.length) (hc : xs.length + 1 ≤ c) :
    putAt (putAt (flat ((xs.take i).map f) ++ room ((c - i) * sz)) (i * sz) (flat ([v].map f))) ((i + 1) * sz) (flat ((xs.drop i).map f)) = flat ((insI xs i v).map f) ++ room ((c - (xs.length + 1)) * sz) := by
  have hl : (flat ((xs.take i).map f)).length = i * sz := by rw [fl_len hf, List.length_take, Nat.min_eq_left (by omega)]
  have e1 : putAt (flat ((xs.take i).map f) ++ room ((c - i) * sz)) (i * sz) (flat ([v].map f)) = flat ((xs.take i).map f) ++ flat ([v].map f) ++ room ((c - (i + 1)) * sz) :=
    putAt_eq (B := room sz) (by rw [room_succ (show c - i = (c - (i + 1)) + 1 by omega), List.append_assoc]) (by rw [hl]) (by rw [fl_vlen hf, room_len])
  have e2 : putAt (flat ((xs.take i).map f) ++ flat ([v].map f) ++ room ((c - (i + 1)) * sz)) ((i + 1) * sz) (flat ((xs.drop i).map f)) = flat ((xs.take i).map f) ++ flat ([v].map f) ++ flat ((xs.drop i).map f) ++ room ((c - (xs.length + 1)) * sz) :=
    putAt_eq (B := room ((xs.length - i) * sz)) (by rw [room_plus (show c - (i + 1) = (xs.length - i) + (c - (xs.length + 1)) by omega), List.append_assoc (_ ++ _)]) (by rw [List.length_append, hl, fl_vlen hf, Nat.succ_mul]) (by rw [fl_len hf, List.length_drop, room_len])
  rw [e1, e2, fl_ins]
/-- In its place. -/
theorem put_in (hf : ∀ x, (f x).cells.length = sz) {xs : List α} {v : α} {c i : Nat} (hi : i < xs.length) (hc : xs.length + 1 ≤ c) :
    putAt (putAt (flat (xs.map f) ++ room ((c - xs.length) * sz)) ((i + 1) * sz) (flat ((xs.drop i).map f))) (i * sz) (flat ([v].map f)) = flat ((insI xs i v).map f) ++ room ((c - (xs.length + 1)) * sz) := by
  have hl : ∀ j, j ≤ xs.length → (flat ((xs.take j).map f)).length = j * sz := fun j hj => by rw [fl_len hf, List.length_take, Nat.min_eq_left hj]
  have hs : xs.take (i + 1) = xs.take i ++ [xs[i]] := List.take_succ_eq_append_getElem hi
  have e1 : putAt (flat (xs.map f) ++ room ((c - xs.length) * sz)) ((i + 1) * sz) (flat ((xs.drop i).map f)) = flat ((xs.take (i + 1)).map f) ++ flat ((xs.drop i).map f) ++ room ((c - (xs.length + 1)) * sz) :=
    putAt_eq (B := flat ((xs.drop (i + 1)).map f) ++ room sz) (by rw [fl_split xs (i + 1), room_succ (show c - xs.length = (c - (xs.length + 1)) + 1 by omega)]; simp only [List.append_assoc]) (by rw [hl _ hi])
      (by rw [fl_len hf, List.length_append, fl_len hf, List.length_drop, List.length_drop, room_len, ← Nat.succ_mul]; congr 1; omega)
  have e2 : putAt (flat ((xs.take i).map f) ++ flat ([xs[i]].map f) ++ (flat ((xs.drop i).map f) ++ room ((c - (xs.length + 1)) * sz))) (i * sz) (flat ([v].map f)) = flat ((xs.take i).map f) ++ flat ([v].map f) ++ (flat ((xs.drop i).map f) ++ room ((c - (xs.length + 1)) * sz)) :=
    putAt_eq rfl (by rw [hl _ (by omega)]) (by rw [fl_vlen hf, fl_vlen hf])
  rw [e1, hs, fl_app, List.append_assoc _ (flat ((xs.drop i).map f)), e2, fl_ins]
  simp only [List.append_assoc]
end

theorem stoOK_app {σ s : Sto} (h : StoOK σ) (hs : ∀ e ∈ s, e.lt (σ.length + s.length)) : StoOK (σ ++ s) := by
  intro i e' hi
  rw [List.length_append]
  by_cases hlt : i < σ.length
  · rw [List.getElem?_append_left hlt] at hi
    have h1 := h i e' hi
    cases e' with
    | cells cs => simp only [Ent.lt] at h1 ⊢; rw [ltAll_iff] at h1 ⊢; exact fun v hv => lt_mono (Nat.le_add_right _ _) (h1 v hv)
    | gone => trivial
    | loop x y z u => exact fun t => lt_mono (Nat.le_add_right _ _) (h1 t)
  · rw [List.getElem?_append_right (by omega)] at hi
    exact hs e' (List.mem_of_getElem? hi)
/-- A round's end: what lies behind the first n boxes is nobody's. -/
theorem loopD_end {m : Nat} {E : Env} {σ s0 s : Sto} (n : Nat) (h : s.take n = s0) (hm : m ≤ (σ ++ s0).length) (hst : StoOK (σ ++ s0)) (he : ∀ t, (look E t).lt (σ ++ s0).length) : ∃ ex, σ ++ s = (σ ++ s0) ++ ex ∧ DropOK m E (σ ++ s0) ex :=
  ⟨s.drop n, by rw [List.append_assoc, ← h, List.take_append_drop], .inr ⟨hm, hst, he⟩⟩

theorem getD_memL {α : Type} [Inhabited α] {xs : List α} {i : Nat} (h : i < xs.length) : xs.getD i default ∈ xs := by simp [List.getD, h]
theorem mem_flat {es : List PV} {c : PV} (h : c ∈ flat es) : ∃ e ∈ es, c ∈ e.cells := by
  induction es with
  | nil => simp [flat] at h
  | cons e r ih =>
    simp only [flat, List.mem_append] at h
    rcases h with h | h
    · exact ⟨e, List.mem_cons_self, h⟩
    · obtain ⟨e', h1, h2⟩ := ih h; exact ⟨e', List.mem_cons_of_mem _ h1, h2⟩
theorem pl_cells {p c : PV} (hp : p.pl = true) (h : c ∈ p.cells) : c.pl = true := by
  cases p with
  | agg cs => exact plL_iff.1 hp c h
  | _ => first | (have : c = _ := List.mem_singleton.1 h; rw [this]; exact hp) | cases hp
theorem flat_pl {α : Type} {f : α → PV} (hp : ∀ x, (f x).pl = true) {xs : List α} : ∀ c ∈ flat (xs.map f), c.pl = true := by
  intro c hc
  obtain ⟨e, he, hc⟩ := mem_flat hc
  obtain ⟨x, _, rfl⟩ := List.mem_map.1 he
  exact pl_cells (hp x) hc
theorem flat_lt {α : Type} {f : α → PV} (hp : ∀ x, (f x).pl = true) (xs : List α) (d k : Nat) : (Ent.cells (flat (xs.map f) ++ room d)).lt k := by
  simp only [Ent.lt]
  rw [ltAll_iff]
  intro v hv
  rcases List.mem_append.1 hv with h | h
  · exact pl_lt (flat_pl hp v h) k
  · rw [List.eq_of_mem_replicate h]; trivial

/-- A part of such a row, to copy from. -/
theorem srcQ_row {α : Type} {f : α → PV} {sz : Nat} (hf : ∀ x, (f x).cells.length = sz) (hp : ∀ x, (f x).pl = true) {σ : Sto} {xs : List α} {rs : List PV} {k i q len cap : Nat} (hk : σ[k]? = some (.cells (flat (xs.map f) ++ rs))) (hq : q ≤ len) (hle : i + q ≤ xs.length) :
    SrcQ σ sz (.xsl k (i * sz) sz len cap) len q (flat (((xs.drop i).take q).map f)) := by
  have hl := fl_len hf xs
  have hmul : i * sz + q * sz ≤ xs.length * sz := by rw [← Nat.add_mul]; exact Nat.mul_le_mul_right _ hle
  have e : ((flat (xs.map f) ++ rs).drop (i * sz)).take (q * sz) = flat (((xs.drop i).take q).map f) := by
    rw [List.drop_append_of_le_length (by omega), List.take_append_of_le_length (by rw [List.length_drop]; omega), fl_drop hf, fl_take hf]
  rw [← e]
  refine .row k (i * sz) len q cap _ hk hq (by rw [List.length_append]; omega) ?_
  rw [e, List.all_eq_true]
  exact fun c hc => pl_isS (flat_pl hp c hc)

theorem one_cells {p : PV} (h : p.cells.all PV.one = true) {c : PV} (hc : c ∈ p.cells) : c.one = true := List.all_eq_true.1 h c hc
theorem fl_all_one {α : Type} {f : α → PV} (h : ∀ x, (f x).cells.all PV.one = true) (xs : List α) : (flat (xs.map f)).all PV.one = true := by
  rw [List.all_eq_true]
  intro c hc
  obtain ⟨e, he, hc⟩ := mem_flat hc
  obtain ⟨x, _, rfl⟩ := List.mem_map.1 he
  exact one_cells (h x) hc

theorem stoOK_gone {σ : Sto} (h : StoOK σ) (k : Nat) : StoOK (σ.set k .gone) := by
  intro i e hi
  rw [List.length_set]
  rw [List.getElem?_set] at hi
  split at hi
  · split at hi
    · cases hi; trivial
    · cases hi
  · exact h i e hi
theorem set_last {σ : Sto} {e e' : Ent} : (σ ++ [e]).set σ.length e' = σ ++ [e'] := by rw [List.set_append_right _ _ (Nat.le_refl _), Nat.sub_self]; rfl
theorem get_last {σ : Sto} {e : Ent} : (σ ++ [e])[σ.length]? = some e := by simp
theorem set_old {σ r : Sto} {k : Nat} {e : Ent} (hk : k < σ.length) : (σ ++ r).set k e = σ.set k e ++ r := List.set_append_left _ _ hk
theorem get_old {σ r : Sto} {k : Nat} {e : Ent} (hk : σ[k]? = some e) : (σ ++ r)[k]? = some e := getL hk
theorem get_set {σ : Sto} {k : Nat} {e : Ent} (hk : k < σ.length) : (σ.set k e)[k]? = some e := by simp [hk]

section
variable {P : Program} {l : Option Nat} {tt : TT} {n m : Nat} {all : Array Oper} {rest : List Oper} {env : Env} {τ ex : Sto} {Q : Post} {d : Nat} {dd : Option Nat} {ty : TypeId} {pos : String} {after : Array Edge} {g : Option (Nat × Bool)}

theorem fit_of {e : TI} {k : Nat} (hB : Nat.ble e.bytes 4095 = true) (h : k ≤ 34359738368) : k * (e.bytes + 1) ≤ 140737488355328 := by
  have h1 := Nat.le_of_ble_eq_true hB
  exact Nat.le_trans (Nat.mul_le_mul h (Nat.succ_le_succ h1)) (by decide)

/-- Nothing is appended. -/
theorem op_append0 {σ : Sto} (ht : TabOK P tt) {tS tX : TypeId} {x y : Operand} {e iX : TI} {eX i off sz len cap : Nat} {q : PV} (he : eti tt tS = some e) (hsz : Nat.beq e.size sz = true) (hX : tl tt tX = some iX) (hXi : iX.desc = .slice eX)
    (hx : opv tt env tS x = .xsl i off sz len cap) (hq : opv tt env tX y = q) (hy : SrcR σ sz q 0 []) (hd : Nat.ble (d + 1) n = true)
    (h : SatOps P l n m all rest ((d, .xsl i off sz len cap) :: env) σ Q) :
    SatOps P l n m all (⟨some d, .call ⟨.builtin .append, #[x, y], #[tS, tX]⟩, ty, pos, after, none⟩ :: rest) env σ Q := by
  refine op_gen rfl (by simp) fun F G a w hs => ?_
  have hsz := Nat.eq_of_beq_eq_true hsz
  have hxo := opv_ok hs tt tS x
  have hxl := opv_lt hs tt tS x
  have hyo := opv_ok hs tt tX y
  rw [hx] at hxo hxl
  rw [hq] at hyo
  obtain ⟨ad, ex', c1, c3⟩ := (hxo.toS rfl).xslv
  obtain ⟨eT, hu, hT⟩ := eti_ok ht he
  subst hsz
  obtain ⟨r1, r2, r3⟩ := srcR_run (P := P) hs hyo hy
  obtain ⟨news, r3, r3D, r4, r5⟩ := r3 0 (Nat.le_refl _)
  have hn : news = #[] := Array.eq_empty_of_size_eq_zero (by rw [r4, Nat.zero_mul])
  subst hn
  have hin : (Builtin.append_ #[tS, tX] ty #[.slice ad len cap, a.eval y]).run P w = .ok (.slice ad len cap) w := by
    have hX' := (ht _ _ hX).und
    rw [hXi] at hX'
    have hsize : ∀ w', (sizeOf eT).run P w' = .ok e.size w' := hT.rsize
    simp only [Builtin.append_, List.getElem?_toArray, List.getElem?_cons_zero, List.getElem?_cons_succ, Sem.run_bind, underlying, hu, hX', run_program, Result.andThen_ok, Sem.run_pure, hsize, r1, Nat.add_zero, c1, if_true, r3, Bool.false_eq_true, if_false, Bool.not_false]
    cases ad <;> simp [storeCells]
  exact ⟨_, w, G, _, _, .inl (run_app (by rw [ex']; exact hin)), hs.setS (ltn hd) (.xsl _ _ _ _ _ _ c1 c3) hxl, .refl _ _ _ _, h⟩

theorem sat_freezeX {c : Code} {k : Nat} {cs rs : List PV} (E' : Env) (ex' : Sto) (hi : ex[k]? = some (.cells (cs ++ rs))) (hpl : ∀ c ∈ cs, c.pl = true) (he : FrzL (τ.length + k) cs E' env) (hσ : FrzS (τ.length + k) cs ex' (ex.set k .gone))
    (h : Sat P l n m c E' (τ ++ ex') Q) : Sat P l n m c env (τ ++ ex) Q :=
  sat_freeze E' (τ ++ ex') ((getX k).trans hi) hpl he (by rw [setX]; exact hσ.app τ) h

theorem ops_freezeX {os : List Oper} {k : Nat} {cs rs : List PV} (E' : Env) (ex' : Sto) (hi : ex[k]? = some (.cells (cs ++ rs))) (hpl : ∀ c ∈ cs, c.pl = true) (he : FrzL (τ.length + k) cs E' env) (hσ : FrzS (τ.length + k) cs ex' (ex.set k .gone))
    (h : SatOps P l n m all os E' (τ ++ ex') Q) : SatOps P l n m all os env (τ ++ ex) Q :=
  ops_freeze E' (τ ++ ex') ((getX k).trans hi) hpl he (by rw [setX]; exact hσ.app τ) h

theorem lk_loadVX {α : Type} [Inhabited α] (f : α → PV) (ht : TabOK P tt) {t : TypeId} {x : Operand} {k j sz : Nat} {ti : TI} {xs : List α} {rs : List PV} (hx : opv tt env t x = .ptr (τ.length + k) (0 + j * sz)) (hti : tl tt t = some ti) (hsz : Nat.beq ti.size sz = true) (hagg : aggD ti.desc = true)
    (hi : ex[k]? = some (.cells (flat (xs.map f) ++ rs))) (hf : ∀ x, (f x).cells.length = sz) (hS : ∀ x, ((f x).cells.map shr1).all PV.isS = true) (hfa : ∀ x, PV.agg ((f x).cells.map shr1) = f x) (hlt : j < xs.length) :
    LookAt P n m env (τ ++ ex) ⟨dd, .load t x, ty, pos, after, g⟩ (f (xs.getD j default)) :=
  lk_loadV f ht hx hti hsz hagg ((getX k).trans hi) hf hS hfa hlt

theorem lk_loadVfX {α : Type} [Inhabited α] (f : α → PV) (ht : TabOK P tt) {t : TypeId} {x : Operand} {k j sz o : Nat} {ti : TI} {xs : List α} {rs : List PV} {p : PV} (hx : opv tt env t x = .ptr (τ.length + k) (0 + j * sz + o)) (hti : tl tt t = some ti) (hagg : aggD ti.desc = false)
    (hi : ex[k]? = some (.cells (flat (xs.map f) ++ rs))) (hf : ∀ x, (f x).cells.length = sz) (ho : Nat.ble (o + 1) sz = true) (hlt : j < xs.length) (hp : shr1 ((f (xs.getD j default)).cells.getD o .dead) = p) (hS : p.isS = true) :
    LookAt P n m env (τ ++ ex) ⟨dd, .load t x, ty, pos, after, g⟩ p :=
  lk_loadVf f ht hx hti hagg ((getX k).trans hi) hf ho hlt hp hS

theorem op_storeVX {α : Type} (f : α → PV) (ht : TabOK P tt) {t : TypeId} {x y : Operand} {k j sz : Nat} {ti : TI} {xs : List α} {rs : List PV} {v : α} (hx : opv tt env t x = .ptr (τ.length + k) (0 + j * sz)) (hti : tl tt t = some ti) (hsz : Nat.beq ti.size sz = true)
    (hi : ex[k]? = some (.cells (flat (xs.map f) ++ rs))) (hf : ∀ x, (f x).cells.length = sz) (hy : opv tt env t y = f v) (hS : (f v).isS = true) (h1 : (f v).cells.all PV.one = true) (hlt : j < xs.length)
    (h : SatOps P l n m all rest env (τ ++ ex.set k (.cells (flat ((xs.set j v).map f) ++ rs))) Q) : SatOps P l n m all (⟨none, .store t x y, ty, pos, after, none⟩ :: rest) env (τ ++ ex) Q :=
  op_storeV f ht hx hti hsz ((getX k).trans hi) hf hy hS h1 hlt (by rw [setX]; exact h)

end
end Go.Proofs.Ytflgoabdgibphaa.Pv
