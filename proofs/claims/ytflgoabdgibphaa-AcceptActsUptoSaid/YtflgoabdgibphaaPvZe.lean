/- Slices of rows of like elements; rows in boxes: made, sliced, read, written, copied, cleared, turned into texts. -/
import Derived.Test.YtflgoabdgibphaaPvZd
import Derived.Laws.BytesString
namespace Go.Proofs.Ytflgoabdgibphaa.Pv
open Go
set_option linter.unusedVariables false
set_option linter.unusedSimpArgs false

section
variable {P : Program} {l : Option Nat} {tt : TT} {n m : Nat} {all : Array Oper} {rest : List Oper} {env : Env} {σ : Sto} {Q : Post} {d : Nat} {dd : Option Nat} {ty : TypeId} {pos : String} {after : Array Edge} {g : Option (Nat × Bool)}

theorem cut_eq {α : Type} (xs : List α) {a b : Nat} : (xs.take b).drop a = (xs.drop a).take (b - a) := by rw [List.drop_take]

theorem ndt {p : Prop} [Decidable p] (h : (!decide p) = true) : ¬ p := by simpa using h
theorem ndf {p : Prop} [Decidable p] (h : (!decide p) = false) : p := by simpa using h

/-- A slice of a row of like elements. -/
theorem lk_sliceMx {α : Type} (f : α → PV) (ht : TabOK P tt) {t : TypeId} {x : Operand} {lo hi : Option Operand} {e : TI} {sz : Nat} {xs : List α} {a b : Int} (he : eti tt t = some e) (hx : opv tt env t x = .sl .sh sz (xs.map f)) (hsz : Nat.beq e.size sz = true)
    (ha : bndP tt env lo 0 = some a) (hb : bndP tt env hi xs.length = some b) (hc : 0 ≤ a ∧ a ≤ b ∧ b ≤ xs.length) : LookAt P n m env σ ⟨dd, .slice t x lo hi none, ty, pos, after, g⟩ (.sl .sh sz (((xs.take b.toNat).drop a.toNat).map f)) := by
  unfold eti at he
  split at he
  · rename_i eT s1 b1 z1 hT
    refine lk_slice ht (c := 0 ≤ a ∧ a ≤ b ∧ b ≤ ((xs.map f).length : Int) ∧ e.size = sz) ?_ ⟨hc.1, hc.2.1, by simpa using hc.2.2, Nat.eq_of_beq_eq_true hsz⟩
    simp only [sliceP, hT, hx, ha, he, List.length_map, hb, cut_eq, List.map_take, List.map_drop]
  · cases he

theorem lk_sliceM_h {α : Type} (f : α → PV) (ht : TabOK P tt) {t : TypeId} {x hi : Operand} {e : TI} {sz : Nat} {xs : List α} {b : Int} (he : eti tt t = some e) (hx : opv tt env t x = .sl .sh sz (xs.map f)) (hsz : Nat.beq e.size sz = true)
    (hb : bndP tt env (some hi) 0 = some b) (hc : 0 ≤ b ∧ b ≤ xs.length) : LookAt P n m env σ ⟨dd, .slice t x none (some hi) none, ty, pos, after, g⟩ (.sl .sh sz ((xs.take b.toNat).map f)) := by
  have := lk_sliceMx (dd := dd) (n := n) (m := m) (σ := σ) (ty := ty) (pos := pos) (after := after) (g := g) f ht (lo := none) (hi := some hi) he hx hsz (a := 0) rfl (by simpa [bndP] using hb) ⟨by omega, hc.1, hc.2⟩
  simpa using this
theorem lk_sliceM_l {α : Type} (f : α → PV) (ht : TabOK P tt) {t : TypeId} {x lo : Operand} {e : TI} {sz : Nat} {xs : List α} {a : Int} (he : eti tt t = some e) (hx : opv tt env t x = .sl .sh sz (xs.map f)) (hsz : Nat.beq e.size sz = true)
    (ha : bndP tt env (some lo) 0 = some a) (hc : 0 ≤ a ∧ a ≤ xs.length) : LookAt P n m env σ ⟨dd, .slice t x (some lo) none none, ty, pos, after, g⟩ (.sl .sh sz ((xs.drop a.toNat).map f)) := by
  have := lk_sliceMx (dd := dd) (n := n) (m := m) (σ := σ) (ty := ty) (pos := pos) (after := after) (g := g) f ht (lo := some lo) (hi := none) he hx hsz ha (b := xs.length) rfl ⟨hc.1, hc.2, by omega⟩
  simpa using this
theorem lk_sliceM_b {α : Type} (f : α → PV) (ht : TabOK P tt) {t : TypeId} {x lo hi : Operand} {e : TI} {sz : Nat} {xs : List α} {a b : Int} (he : eti tt t = some e) (hx : opv tt env t x = .sl .sh sz (xs.map f)) (hsz : Nat.beq e.size sz = true)
    (ha : bndP tt env (some lo) 0 = some a) (hb : bndP tt env (some hi) 0 = some b) (hc : 0 ≤ a ∧ a ≤ b ∧ b ≤ xs.length) : LookAt P n m env σ ⟨dd, .slice t x (some lo) (some hi) none, ty, pos, after, g⟩ (.sl .sh sz (((xs.take b.toNat).drop a.toNat).map f)) :=
  lk_sliceMx f ht he hx hsz ha (by simpa [bndP] using hb) hc

theorem bounds_any {F : Nat → Prop} {G : Gh} {a : Act} {w : World} (hs : Sim n m F G env σ a w) {isS : Bool} {len cap : Nat} {lo hi mx : Option Operand} {l h mm : Int} (hm1 : mx.isSome = true → hi.isSome = true) (hl : bndP tt env lo 0 = some l) (hh : bndP tt env hi len = some h) {cap0 : Nat} (hcap : cap0 ≤ cap) (hm : bndP tt env mx cap0 = some mm)
    (h0 : 0 ≤ l) (h1 : l ≤ h) (h2 : h ≤ mm) (h3 : mm ≤ cap0) : ∃ m', mm.toNat ≤ m' ∧ m' ≤ cap ∧ (Instr.sliceBounds isS len cap (lo.map a.eval) (hi.map a.eval) (mx.map a.eval)).run P w = .ok (l.toNat, h.toNat, m') w := by
  cases mx with
  | none =>
    simp only [bndP, Option.some.injEq] at hm
    exact ⟨cap, by omega, Nat.le_refl _, bounds_run hs hl hh h0 h1 (by omega)⟩
  | some z =>
    cases hi with
    | none => simp at hm1
    | some y => exact ⟨mm.toNat, Nat.le_refl _, by omega, bounds3_run hs hl (by simpa [bndP] using hh) (by simpa [bndP] using hm) h0 h1 h2 (by omega)⟩

/-- A slice of a row in a box. -/
theorem lk_sliceB (ht : TabOK P tt) {t : TypeId} {x : Operand} {lo hi mx : Option Operand} {e : TI} {i off sz len cap : Nat} {l h mm : Int} (he : eti tt t = some e) (hx : opv tt env t x = .bsl i off sz len cap) (hsz : Nat.beq e.size sz = true)
    (hm1 : (mx.isSome && hi.isNone) = false) (hl : bndP tt env lo 0 = some l) (hh : bndP tt env hi len = some h) (hm : bndP tt env mx cap = some mm) (hc : 0 ≤ l ∧ l ≤ h ∧ h ≤ mm ∧ mm ≤ cap) :
    LookAt P n m env σ ⟨dd, .slice t x lo hi mx, ty, pos, after, g⟩ (.bsl i (off + l.toNat * sz) sz (h.toNat - l.toNat) (mm.toNat - l.toNat)) := by
  refine ⟨fun F G a w hs => ?_⟩
  have hsz := Nat.eq_of_beq_eq_true hsz
  have hxo := opv_ok hs tt t x
  have hxl := opv_lt hs tt t x
  rw [hx] at hxo hxl
  obtain ⟨ad, cap', ex, c1, c2, c3⟩ := (hxo.toS rfl).bslv
  obtain ⟨eT, hu, hT⟩ := eti_ok ht he
  obtain ⟨h1, h2, h3, h4⟩ := hc
  obtain ⟨m', q1, q2, hb⟩ := bounds_any (P := P) hs (isS := true) (by intro h; cases mx <;> cases hi <;> simp_all) hl hh c2 hm h1 h2 h3 h4
  have hz := hT.rsize w
  refine ⟨.slice (if m' = l.toNat then ad else ad.map (·.add (l.toNat * sz))) (h.toNat - l.toNat) (m' - l.toNat), ?_, .inr (.inl (.bsl _ _ _ _ _ _ _ (by omega) (by omega) ?_)), by simpa [PV.lt] using hxl⟩
  · simp [execOp, ex, Instr.sliceAt, Instr.slice, underlying, hu, hb, hz, hsz]
  · by_cases h0 : mm.toNat - l.toNat = 0
    · exact .inl h0
    · right
      rw [if_neg (by omega), c3.resolve_left (by omega)]
      simp [add_eq]

theorem atp_ok (ht : TabOK P tt) {t : TypeId} {u : Nat} {i : TI} (h : tl tt t = some i) (hd : i.desc = .pointer u) : P.underlying t = some (.pointer u) := by rw [(ht _ _ h).und, hd]

/-- A slice of an array in a box. -/
theorem lk_sliceA (ht : TabOK P tt) {t u : TypeId} {x : Operand} {lo hi mx : Option Operand} {ti e : TI} {i off k : Nat} {l h mm : Int} (hti : tl tt t = some ti) (hd : ti.desc = .pointer u) (he : ati tt u = some (k, e)) (hx : opv tt env t x = .ptr i off)
    (hm1 : (mx.isSome && hi.isNone) = false) (hl : bndP tt env lo 0 = some l) (hh : bndP tt env hi k = some h) (hm : bndP tt env mx k = some mm) (hc : 0 ≤ l ∧ l ≤ h ∧ h ≤ mm ∧ mm ≤ k) :
    LookAt P n m env σ ⟨dd, .slice t x lo hi mx, ty, pos, after, g⟩ (.bsl i (off + l.toNat * e.size) e.size (h.toNat - l.toNat) (mm.toNat - l.toNat)) := by
  refine ⟨fun F G a w hs => ?_⟩
  have hxo := opv_ok hs tt t x
  have hxl := opv_lt hs tt t x
  rw [hx] at hxo hxl
  have ex := (hxo.toS rfl).ptrv
  have hu := atp_ok ht hti hd
  obtain ⟨eT, hu2, hT⟩ := ati_ok ht he
  obtain ⟨h1, h2, h3, h4⟩ := hc
  obtain ⟨m', q1, q2, hb⟩ := bounds_any (P := P) hs (isS := false) (by intro h; cases mx <;> cases hi <;> simp_all) hl hh (Nat.le_refl k) hm h1 h2 h3 h4
  have hz := hT.rsize w
  refine ⟨.slice (some (if m' = l.toNat then ⟨G.bs i, off, none⟩ else (⟨G.bs i, off, none⟩ : Addr).add (l.toNat * e.size))) (h.toNat - l.toNat) (m' - l.toNat), ?_, .inr (.inl (.bsl _ _ _ _ _ _ _ (by omega) (by omega) ?_)), by simpa [PV.lt] using hxl⟩
  · simp [execOp, ex, Instr.sliceAt, Instr.slice, underlying, hu, hu2, hb, hz, Instr.sureAddr, asAddr]
  · by_cases h0 : mm.toNat - l.toNat = 0
    · exact .inl h0
    · right
      rw [if_neg (by omega)]
      simp [add_eq]

def PV.isSl : PV → Bool
  | .sl .sh _ _ | .bsl _ _ _ _ _ => true
  | _ => false

/-- A slice without elements and without room: one may append to it. -/
theorem op_slice00 (o : Own) (ht : TabOK P tt) {t : TypeId} {x : Operand} {e : TI} {k k' : IntKind} {p : PV} (he : eti tt t = some e) (hx : opv tt env t x = p) (hp : p.isSl = true) (ho : o ≠ .sh)
    (hd : Nat.ble (d + 1) n = true) (h : SatOps P l n m all rest ((d, .sl o e.size []) :: env) σ Q) : SatOps P l n m all (⟨some d, .slice t x none (some (.const (.int k 0))) (some (.const (.int k' 0))), ty, pos, after, none⟩ :: rest) env σ Q := by
  refine op_gen rfl (by simp) fun F G a w hs => ?_
  have hxo := opv_ok hs tt t x
  rw [hx] at hxo
  obtain ⟨eT, hu, hT⟩ := eti_ok ht he
  have hz := hT.rsize w
  obtain ⟨ad, ln, cp, ex⟩ : ∃ ad ln cp, a.eval x = .slice ad ln cp := by
    cases p with
    | sl o sz es =>
      cases o <;> first | (cases hp; done) | skip
      obtain ⟨ad, cp, e, _⟩ := ((hxo.toS rfl).slv).slv
      exact ⟨_, _, _, e⟩
    | bsl i off sz len cap =>
      obtain ⟨ad, cp, e, _⟩ := (hxo.toS rfl).bslv
      exact ⟨_, _, _, e⟩
    | _ => cases hp
  have q1 : a.eval (.const (.int k 0)) = .int k 0 := rfl
  have q2 : a.eval (.const (.int k' 0)) = .int k' 0 := rfl
  have hrun : (execOp a.eval ⟨some d, .slice t x none (some (.const (.int k 0))) (some (.const (.int k' 0))), ty, pos, after, none⟩).run P w = .ok (.value (.slice ad 0 0)) w := by
    simp [execOp, ex, q1, q2, Instr.sliceAt, Instr.slice, underlying, hu, hz, Instr.sliceBounds, Instr.sliceBound, asIntOf]
  have hO : RepO G w (.slice ad 0 0) (.sl o e.size []) := by
    cases o with
    | sh => exact absurd rfl ho
    | ow => exact .ow ad 0 e.size [] (.sl0 ad 0 _) (fun h => by simp at h)
    | ex => exact .ex0 ad _
  have hnone : ∀ j, ownSlot (.slice ad 0 0) (.sl o e.size []) j = none := fun j => by
    unfold ownSlot; cases ad <;> cases o <;> simp [ownB]
  exact ⟨_, w, G, _, σ, .inl hrun, hs.set (ltn hd) (.one hO) trivial (fun j b hb => by rw [hnone] at hb; cases hb) (fun j1 _ b hb => by rw [hnone] at hb; cases hb), .refl _ _ _ _, h⟩

/-- A place in a row in a box, of elements of one cell. -/
theorem lk_idxB (ht : TabOK P tt) {t tI : TypeId} {x i : Operand} {e : TI} {b off len cap : Nat} {k : IntKind} {z : Int} (he : eti tt t = some e) (hx : opv tt env t x = .bsl b off 1 len cap) (hi : opv tt env tI i = .int k z) (hsz : Nat.beq e.size 1 = true)
    (hc : 0 ≤ z ∧ z < len) : LookAt P n m env σ ⟨dd, .indexAddr t x i, ty, pos, after, g⟩ (.ptr b (off + z.toNat)) := by
  refine LookAt.norm (LookAt.of (fun F G a w hs => look_indexAddr (tI := tI) ht hs) (c := 1 = e.size ∧ 0 ≤ z ∧ z < len) ?_ ⟨(Nat.eq_of_beq_eq_true hsz).symm, hc⟩)
  rw [hx, hi]
  simp only [indexAddrP, he, Nat.mul_one]
/-- .. in an array in a box. -/
theorem lk_idxA (ht : TabOK P tt) {t tI : TypeId} {x i : Operand} {e : TI} {b off len : Nat} {k : IntKind} {z : Int} (he : ati tt t = some (len, e)) (hx : opv tt env t x = .ptr b off) (hi : opv tt env tI i = .int k z) (hsz : Nat.beq e.size 1 = true)
    (hc : 0 ≤ z ∧ z < len) : LookAt P n m env σ ⟨dd, .indexAddr t x i, ty, pos, after, g⟩ (.ptr b (off + z.toNat)) := by
  refine LookAt.norm (LookAt.of (fun F G a w hs => look_indexAddr (tI := tI) ht hs) (c := 0 ≤ z ∧ z < len) ?_ hc)
  rw [hx, hi]
  simp only [indexAddrP, he, Nat.eq_of_beq_eq_true hsz, Nat.mul_one]

theorem drop_cons {cs : List PV} {off : Nat} {p : PV} (h : cs[off]? = some p) : cs.drop off = p :: cs.drop (off + 1) := by
  obtain ⟨h1, h2⟩ := List.getElem?_eq_some_iff.1 h
  rw [← h2]; exact List.drop_eq_getElem_cons h1

/-- An element of a row in a box is read. -/
theorem lk_loadM {α : Type} [Inhabited α] (f : α → PV) (ht : TabOK P tt) {t : TypeId} {x : Operand} {i off : Nat} {ti : TI} {xs : List α} {p : PV} (hx : opv tt env t x = .ptr i off) (hti : tl tt t = some ti) (hnd : aggD ti.desc = false)
    (hi : σ[i]? = some (.cells (xs.map f))) (hlt : off < xs.length) (hp : shr1 (f (xs.getD off default)) = p) (hS : p.isS = true) : LookAt P n m env σ ⟨dd, .load t x, ty, pos, after, g⟩ p := by
  refine lk_loadB ht hx hti hi (c := True) ?_ trivial
  have h0 : (xs.map f)[off]? = some (f (xs.getD off default)) := by simp [List.getD, hlt]
  unfold loadB
  rw [hnd, drop_cons h0]
  simp only [hp, hS]

theorem putAt_one : ∀ (l : List PV) (o : Nat) (p : PV), putAt l o [p] = l.set o p
  | [], o, p => by cases o <;> rfl
  | c :: r, 0, p => by simp only [putAt, List.set_cons_zero]
  | c :: r, k + 1, p => by simp only [putAt, List.set_cons_succ, putAt_one]

/-- An element of a row in a box is written. -/
theorem op_storeM {α : Type} (f : α → PV) (ht : TabOK P tt) {t : TypeId} {x y : Operand} {i off : Nat} {ti : TI} {xs : List α} {v : α} (hx : opv tt env t x = .ptr i off) (hti : tl tt t = some ti) (hsz : Nat.beq ti.size 1 = true)
    (hi : σ[i]? = some (.cells (xs.map f))) (hy : opv tt env t y = f v) (hS : (f v).isS = true) (h1 : (f v).one = true) (hlt : off < xs.length)
    (h : SatOps P l n m all rest env (σ.set i (.cells ((xs.set off v).map f))) Q) : SatOps P l n m all (⟨none, .store t x y, ty, pos, after, none⟩ :: rest) env σ Q := by
  have hc : (f v).cells = [f v] := by cases hv : f v <;> first | rfl | (rw [hv] at h1; cases h1)
  refine op_storeB ht hx hti hi hy hS (by rw [hc, Nat.eq_of_beq_eq_true hsz]; rfl) (by rw [hc]; simp [h1]) (by rw [Nat.eq_of_beq_eq_true hsz]; simp; omega) ?_
  rw [hc, putAt_one, ← List.map_set]; exact h

/-- A row of like elements is made, in a box. -/
theorem op_makeM {α : Type} (f : α → PV) (v0 : α) (ht : TabOK P tt) {t : TypeId} {ln cp : Operand} {e : TI} {k k' : IntKind} {z : Int} (he : eti tt t = some e) (hsz : Nat.beq e.size 1 = true) (hz : e.zero = [f v0]) (hl : opv tt env 0 ln = .int k z) (hcp : opv tt env 0 cp = .int k' z) (hS : (f v0).isS = true)
    (hB : Nat.ble e.bytes 4095 = true) (hc : 0 ≤ z ∧ z ≤ 68719476736) (hd : Nat.ble (d + 1) n = true) (h : SatOps P l n m all rest ((d, .bsl σ.length 0 1 z.toNat z.toNat) :: env) (σ ++ [.cells ((List.replicate z.toNat v0).map f)]) Q) :
    SatOps P l n m all (⟨some d, .makeSlice t ln cp, ty, pos, after, none⟩ :: rest) env σ Q := by
  have hsz := Nat.eq_of_beq_eq_true hsz
  have hB := Nat.le_of_ble_eq_true hB
  refine op_gen rfl (by simp) fun F G a w hs => ?_
  have h1 := opv_ok hs tt 0 ln
  have h2 := opv_ok hs tt 0 cp
  rw [hl] at h1
  rw [hcp] at h2
  have e1 := (h1.toS rfl).int
  have e2 := (h2.toS rfl).int
  unfold eti at he
  split at he
  · rename_i eT s1 b1 z1 hT
    have hu := (ht _ _ hT).und
    have hE := ht _ _ he
    obtain ⟨info, zv, i1, i2, i3, i4, i5⟩ := hE.inf
    rw [hz] at i5
    have hb : (info.bytes : Int) * z ≤ 281474976710656 := by
      rw [i3]
      have : ((e.bytes : Nat) : Int) * z ≤ 4096 * 68719476736 := Int.mul_le_mul (by omega) hc.2 hc.1 (by omega)
      omega
    have hrun := run_make (P := P) w t eT info zv hu i1 i4 k k' z z hc.1 (Int.le_refl _) hb (by omega)
    rw [i2, hsz, Nat.mul_one] at hrun
    obtain ⟨u, hu1, hu2⟩ : ∃ u, zv.cells.toList = [u] ∧ zc1 u (f v0) = true := by
      cases hq : zv.cells.toList with
      | nil => rw [hq] at i5; cases i5
      | cons u r =>
        rw [hq] at i5
        cases r with
        | nil => simp only [zcs, Bool.and_true] at i5; exact ⟨u, rfl, i5⟩
        | cons => simp [zcs] at i5
    have hcells : zv.cells = #[u] := by rw [← Array.toList_inj]; simpa using hu1
    have hmade : ∀ (j : Nat) v, (madeCells zv.cells z.toNat)[j]? = some v → v = u := by
      intro j v hv
      simp only [madeCells, hcells] at hv
      rw [Array.getElem?_map, Option.map_eq_some_iff] at hv
      obtain ⟨q, _, rfl⟩ := hv
      simp [Nat.mod_one]
    have hpl : RepP G.K w u (f v0) := (zc1_rep (G := G) (w := w) hu2).2.2.resolve_left (fun e => by rw [e] at hS; cases hS)
    have hs1 := hs.box (madeCells zv.cells z.toNat) eT ((List.replicate z.toNat v0).map f) (by simp [size_madeCells]) (by
        rw [ltAll_iff]; intro p hp
        obtain ⟨q, hq, rfl⟩ := List.mem_map.1 hp
        rw [List.eq_of_mem_replicate hq]; exact hpl.lt _) (fun j v c hv hc' => by
        rw [hmade j v hv]
        have : c ∈ (List.replicate z.toNat v0).map f := List.mem_of_getElem? hc'
        obtain ⟨q, hq, rfl⟩ := List.mem_map.1 this
        rw [List.eq_of_mem_replicate hq]; exact .sh (.pl hpl)) (.of_sh fun j v c hv hc' => by
        rw [hmade j v hv]
        have : c ∈ (List.replicate z.toNat v0).map f := List.mem_of_getElem? hc'
        obtain ⟨q, hq, rfl⟩ := List.mem_map.1 this
        rw [List.eq_of_mem_replicate hq]; exact ownB_sh (G := G) (w := w) (.pl hpl))
    refine ⟨.slice (some ⟨w.heap.size, 0, none⟩) z.toNat z.toNat, _, _, _, _, .inl (by simp [execOp, e1, e2, hrun]), hs1.setS (ltn hd) (.bsl _ _ _ _ _ _ _ (Nat.le_refl _) (Nat.le_refl _) (.inr (by simp only [upd_same]))) (by simp [PV.lt]), Evol.alloc hs _ _ _ fun i hi => upd_ne _ _ (by have := hs.floor; omega), h⟩
  · cases he

/-- A row without elements is made: one may append to it. -/
theorem op_make0 (ht : TabOK P tt) {t : TypeId} {ln cp : Operand} {e : TI} {k k' : IntKind} {z : Int} (he : eti tt t = some e) (hl : opv tt env 0 ln = .int k 0) (hcp : opv tt env 0 cp = .int k' z)
    (hB : Nat.ble e.bytes 4095 = true) (hc : 0 ≤ z ∧ z ≤ 68719476736) (hd : Nat.ble (d + 1) n = true) (h : SatOps P l n m all rest ((d, .sl .ow e.size []) :: env) σ Q) :
    SatOps P l n m all (⟨some d, .makeSlice t ln cp, ty, pos, after, none⟩ :: rest) env σ Q := by
  have hB := Nat.le_of_ble_eq_true hB
  refine op_gen rfl (by simp) fun F G a w hs => ?_
  have h1 := opv_ok hs tt 0 ln
  have h2 := opv_ok hs tt 0 cp
  rw [hl] at h1
  rw [hcp] at h2
  have e1 := (h1.toS rfl).int
  have e2 := (h2.toS rfl).int
  unfold eti at he
  split at he
  · rename_i eT s1 b1 z1 hT
    have hu := (ht _ _ hT).und
    have hE := ht _ _ he
    obtain ⟨info, zv, i1, i2, i3, i4, i5⟩ := hE.inf
    have hb : (info.bytes : Int) * z ≤ 281474976710656 := by
      rw [i3]
      have : ((e.bytes : Nat) : Int) * z ≤ 4096 * 68719476736 := Int.mul_le_mul (by omega) hc.2 hc.1 (by omega)
      omega
    have hrun := run_make (P := P) w t eT info zv hu i1 i4 k k' 0 z (Int.le_refl _) hc.1 hb (by omega)
    have hs1 := hs.alloc (.cells (madeCells zv.cells (z.toNat * info.size)) eT) (.imm 0)
    have hsp : Spare (w.alloc (.cells (madeCells zv.cells (z.toNat * info.size)) eT)) w.heap.size 0 (z.toNat * e.size) :=
      ⟨_, _, _, World.alloc_heap_new w _, by simp [size_madeCells, i2], fun j _ _ => World.frozen?_alloc_new w _ _ j⟩
    have hno : ∀ l', ownAt ⟨upd G.K w.heap.size (.imm 0), G.bs⟩ env σ a.tmps (w.alloc (.cells (madeCells zv.cells (z.toNat * info.size)) eT)) l' ≠ some w.heap.size := fun l' hl' => by
      rw [own_same hs (K' := upd G.K w.heap.size (.imm 0)) (fun b i hb => heap_alloc_lt _ _ (hs.kfree b (by rw [hb]; simp)))] at hl'
      exact absurd (own_lt hs hl') (Nat.lt_irrefl _)
    have hr : RepO ⟨upd G.K w.heap.size (.imm 0), G.bs⟩ (w.alloc (.cells (madeCells zv.cells (z.toNat * info.size)) eT)) (.slice (some ⟨w.heap.size, 0, none⟩) 0 z.toNat) (.sl .ow e.size []) :=
      .ow (some ⟨w.heap.size, 0, none⟩) z.toNat e.size [] (.sl0 _ _ _) fun _ => ⟨⟨w.heap.size, 0, none⟩, rfl, rfl, by simp [upd_same], by simpa using hsp⟩
    have hs2 := hs1.setFresh (d := d) (ltn hd) (w := w) hr hno (fun hF => Nat.lt_irrefl _ (hs.frlt _ hF))
    refine ⟨.slice (some ⟨w.heap.size, 0, none⟩) 0 z.toNat, _, _, _, _, .inl (by simp [execOp, e1, e2, hrun]), hs2, Evol.alloc hs _ _ _ fun i hi => rfl, h⟩
  · cases he

end
end Go.Proofs.Ytflgoabdgibphaa.Pv
