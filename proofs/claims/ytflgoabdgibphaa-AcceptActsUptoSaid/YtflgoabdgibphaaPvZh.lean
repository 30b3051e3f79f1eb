/- The rules for rows in boxes, in the form in which the walk uses them. -/
import Derived.Test.YtflgoabdgibphaaPvZg
namespace Go.Proofs.Ytflgoabdgibphaa.Pv
open Go
set_option linter.unusedVariables false
set_option linter.unusedSimpArgs false

theorem srcM_boxX {α : Type} {f : α → PV} {tt : TT} {τ ex : Sto} {k off len cap : Nat} {zs : List α} (h1 : ex[k]? = some (.cells (zs.map f))) (h2 : off + len ≤ zs.length) : SrcM f tt (τ ++ ex) (.bsl (τ.length + k) off 1 len cap) ((zs.drop off).take len) :=
  srcM_box ((getX k).trans h1) h2
theorem srcM_boxX0 {α : Type} {f : α → PV} {tt : TT} {τ ex : Sto} {k len cap : Nat} {zs : List α} (h1 : ex[k]? = some (.cells (zs.map f))) (h2 : len = zs.length) : SrcM f tt (τ ++ ex) (.bsl (τ.length + k) 0 1 len cap) zs := by
  have := srcM_boxX (f := f) (tt := tt) (τ := τ) (ex := ex) (k := k) (off := 0) (len := len) (cap := cap) h1 (by omega)
  rw [List.drop_zero, h2, List.take_length] at this
  rw [h2]; exact this

section
variable {P : Program} {l : Option Nat} {tt : TT} {n m : Nat} {all : Array Oper} {rest : List Oper} {env : Env} {τ ex : Sto} {Q : Post} {d : Nat} {dd : Option Nat} {ty : TypeId} {pos : String} {after : Array Edge} {g : Option (Nat × Bool)}

theorem lk_loadMX {α : Type} [Inhabited α] (f : α → PV) (ht : TabOK P tt) {t : TypeId} {x : Operand} {k off : Nat} {ti : TI} {xs : List α} {p : PV} (hx : opv tt env t x = .ptr (τ.length + k) off) (hti : tl tt t = some ti) (hnd : aggD ti.desc = false)
    (hi : ex[k]? = some (.cells (xs.map f))) (hlt : off < xs.length) (hp : shr1 (f (xs.getD off default)) = p) (hS : p.isS = true) : LookAt P n m env (τ ++ ex) ⟨dd, .load t x, ty, pos, after, g⟩ p :=
  lk_loadM f ht hx hti hnd ((getX k).trans hi) hlt hp hS

theorem op_storeMX {α : Type} (f : α → PV) (ht : TabOK P tt) {t : TypeId} {x y : Operand} {k off : Nat} {ti : TI} {xs : List α} {v : α} (hx : opv tt env t x = .ptr (τ.length + k) off) (hti : tl tt t = some ti) (hsz : Nat.beq ti.size 1 = true)
    (hi : ex[k]? = some (.cells (xs.map f))) (hy : opv tt env t y = f v) (hS : (f v).isS = true) (h1 : (f v).one = true) (hlt : off < xs.length)
    (h : SatOps P l n m all rest env (τ ++ ex.set k (.cells ((xs.set off v).map f))) Q) : SatOps P l n m all (⟨none, .store t x y, ty, pos, after, none⟩ :: rest) env (τ ++ ex) Q := by
  refine op_storeM f ht hx hti hsz ((getX k).trans hi) hy hS h1 hlt ?_
  rw [setX]; exact h

theorem op_makeMX {α : Type} (f : α → PV) (v0 : α) (ht : TabOK P tt) {t : TypeId} {ln cp : Operand} {e : TI} {kk kk' : IntKind} {z : Int} {k : Nat} (he : eti tt t = some e) (hsz : Nat.beq e.size 1 = true) (hz : e.zero = [f v0]) (hl : opv tt env 0 ln = .int kk z) (hcp : opv tt env 0 cp = .int kk' z) (hS : (f v0).isS = true)
    (hB : Nat.ble e.bytes 4095 = true) (hc : 0 ≤ z ∧ z ≤ 68719476736) (hk : ex.length = k) (hd : Nat.ble (d + 1) n = true) (h : SatOps P l n m all rest ((d, .bsl (τ.length + k) 0 1 z.toNat z.toNat) :: env) (τ ++ (ex ++ [.cells ((List.replicate z.toNat v0).map f)])) Q) :
    SatOps P l n m all (⟨some d, .makeSlice t ln cp, ty, pos, after, none⟩ :: rest) env (τ ++ ex) Q := by
  refine op_makeM f v0 ht he hsz hz hl hcp hS hB hc hd ?_
  rw [List.length_append, hk, List.append_assoc]; exact h

theorem op_strBytesX (ht : TabOK P tt) {src dst : TypeId} {x : Operand} {e i : TI} {s : ByteArray} {k : Nat} (he : eti tt dst = some e) (hd1 : e.desc = .int .u8) (hi : tl tt src = some i) (hx : opv tt env src x = .str s) (hk : ex.length = k) (hd : Nat.ble (d + 1) n = true)
    (h : SatOps P l n m all rest ((d, .bsl (τ.length + k) 0 1 s.size s.size) :: env) (τ ++ (ex ++ [.cells ((bi s).map (.int .u8))])) Q) : SatOps P l n m all (⟨some d, .convert src dst x, ty, pos, after, none⟩ :: rest) env (τ ++ ex) Q := by
  refine op_strBytes ht he hd1 hi hx hd ?_
  rw [List.length_append, hk, List.append_assoc]; exact h

theorem op_copyMX {α : Type} (f : α → PV) (hone : ∀ x, (f x).cells = [f x]) (hpl : ∀ x, (f x).pl = true) (h1 : ∀ x, (f x).one = true) (ht : TabOK P tt) {tD tS : TypeId} {x y : Operand} {e : TI} {k off len cap : Nat} {xs ys : List α} {q : PV} (he : eti tt tD = some e) (hsz : Nat.beq e.size 1 = true)
    (hx : opv tt env tD x = .bsl (τ.length + k) off 1 len cap) (hi : ex[k]? = some (.cells (xs.map f))) (hq : opv tt env tS y = q) (hy : SrcM f tt (τ ++ ex) q ys) (hle : off + len ≤ xs.length) (hd : Nat.ble (d + 1) n = true)
    (h : SatOps P l n m all rest ((d, .int .i64 (min ys.length len : Nat)) :: env) (τ ++ ex.set k (.cells ((ovl xs off (ys.take len)).map f))) Q) :
    SatOps P l n m all (⟨some d, .call ⟨.builtin .copy, #[x, y], #[tD, tS]⟩, ty, pos, after, none⟩ :: rest) env (τ ++ ex) Q := by
  refine op_copyM f hone hpl h1 ht he hsz hx ((getX k).trans hi) hq hy hle hd ?_
  rw [setX]; exact h

theorem op_clearMX {α : Type} (f : α → PV) (v0 : α) (ht : TabOK P tt) {tD : TypeId} {x : Operand} {e : TI} {k off len cap : Nat} {xs : List α} (he : eti tt tD = some e) (hsz : Nat.beq e.size 1 = true) (hz0 : e.zero = [f v0])
    (hS : (f v0).isS = true) (h1 : (f v0).one = true) (hx : opv tt env tD x = .bsl (τ.length + k) off 1 len cap) (hi : ex[k]? = some (.cells (xs.map f))) (hle : off + len ≤ xs.length) (h : SatOps P l n m all rest env (τ ++ ex.set k (.cells ((ovl xs off (List.replicate len v0)).map f))) Q) :
    SatOps P l n m all (⟨none, .call ⟨.builtin .clear, #[x], #[tD]⟩, ty, pos, after, none⟩ :: rest) env (τ ++ ex) Q := by
  refine op_clearM f v0 ht he hsz hz0 hS h1 hx ((getX k).trans hi) hle ?_
  rw [setX]; exact h

theorem lk_fieldAddrC {σ : Sto} (ht : TabOK P tt) {sT : TypeId} {f off : Nat} {x : Operand} {i : TI} {cs ds : List PV} (hf : fld tt sT f = some (off, i)) (hx : opv tt env sT x = .cref cs) (hs : Nat.beq i.size 0 = false) (hl : Nat.ble off cs.length = true) (hk : cs.drop off = ds) :
    LookAt P n m env σ ⟨dd, .fieldAddr sT x f, ty, pos, after, g⟩ (.cref ds) :=
  LookAt.norm (LookAt.of (fun F G a w h => look_fieldAddr ht h) (c := i.size ≠ 0 ∧ off ≤ cs.length) (by rw [hx]; simp only [fieldAddrP, hf, hk]) ⟨fun e => (by rw [e] at hs; cases hs), Nat.le_of_ble_eq_true hl⟩)

/-- A call of a function value that leaves the store as it is. -/
theorem op_callF {σ : Sto} {fo : Operand} {args : Array Operand} {ats : Array TypeId} {f : FuncId} {as bs ps : List PV} {p : PV} (hcal : Callable P f) (hc : SatCall P f ps σ fun x σ' => x = p ∧ σ' = σ) (hfo : opv tt env 0 fo = .fn (.func f) as bs) (hps : as ++ (passL tt env args.toList ats.toList ++ bs) = ps)
    (hlen : Nat.ble args.size ats.size = true) (htup : ps.all (fun p => !p.isTup) = true) (hd : Nat.ble (d + 1) n = true) (h : SatOps P l n m all rest ((d, p) :: env) σ Q) :
    SatOps P l n m all (⟨some d, .call ⟨.value fo, args, ats⟩, ty, pos, after, none⟩ :: rest) env σ Q :=
  op_call (tt := tt) hcal hfo hps.symm (Nat.le_of_ble_eq_true hlen) htup hc (ltn hd) fun r σ' ⟨e1, e2⟩ => by rw [e1, e2]; exact h

/-- The place of the first one of which something holds, or -1. -/
def idxI {α : Type} (p : α → Bool) (xs : List α) : Int := match xs.findIdx? p with
  | some i => i
  | none => -1

theorem idx_hit {α : Type} [Inhabited α] {p : α → Bool} {xs : List α} {i : Nat} (hi : i < xs.length) (h : ∀ j, j < i → p (xs.getD j default) = false) (hp : p (xs.getD i default) = true) : idxI p xs = i := by
  have : xs.findIdx? p = some i := by
    rw [List.findIdx?_eq_some_iff_getElem]
    have e : ∀ j (hj : j < xs.length), xs.getD j default = xs[j] := fun j hj => by simp [List.getD, hj]
    refine ⟨hi, by rw [← e i hi]; exact hp, fun j hj => ?_⟩
    rw [← e j (by omega)]; simpa using h j hj
  simp [idxI, this]
theorem idx_none {α : Type} [Inhabited α] {p : α → Bool} {xs : List α} (h : ∀ j, j < xs.length → p (xs.getD j default) = false) : idxI p xs = -1 := by
  have : xs.findIdx? p = none := by
    rw [List.findIdx?_eq_none_iff]
    intro x hx
    obtain ⟨j, hj, rfl⟩ := List.getElem_of_mem hx
    have := h j hj
    simpa [List.getD, hj] using this
  simp [idxI, this]
theorem idx_cases {α : Type} (p : α → Bool) (xs : List α) : (idxI p xs = -1 ∧ ∀ x ∈ xs, p x = false) ∨ ∃ (i : Nat) (x : α), idxI p xs = i ∧ xs[i]? = some x ∧ p x = true ∧ ∀ (j : Nat) y, j < i → xs[j]? = some y → p y = false := by
  cases hf : xs.findIdx? p with
  | none => exact .inl ⟨by simp [idxI, hf], fun x hx => List.findIdx?_eq_none_iff.1 hf x hx⟩
  | some i =>
    obtain ⟨h1, h2, h3⟩ := List.findIdx?_eq_some_iff_getElem.1 hf
    refine .inr ⟨i, xs[i], by simp [idxI, hf], by simp [h1], h2, fun j y hj hy => ?_⟩
    have := h3 j hj
    obtain ⟨hj', rfl⟩ := List.getElem?_eq_some_iff.1 hy
    simpa using this
theorem idx_any {α : Type} (p : α → Bool) (xs : List α) : decide (0 ≤ idxI p xs) = xs.any p := by
  rcases idx_cases p xs with ⟨h1, h2⟩ | ⟨i, x, h1, h2, h3, _⟩
  · rw [h1]
    have : xs.any p = false := by rw [List.any_eq_false]; intro x hx; simp [h2 x hx]
    rw [this]; rfl
  · rw [h1]
    have : xs.any p = true := List.any_eq_true.2 ⟨x, List.mem_of_getElem? h2, h3⟩
    rw [this]; simp

theorem rr_nil {tt : TT} {σ : Sto} : ResRel tt env σ [] [] := trivial
theorem rr_tmp {σ : Sto} {t : Nat} {p q : PV} {rs : List ResultVar} {ps : List PV} (hp : look env t = p) (hw : Wk q p) (h : ResRel tt env σ rs ps) : ResRel tt env σ (.tmp t :: rs) (q :: ps) := ⟨by rw [hp]; exact hw, h⟩
theorem rr_cell {k off a : Nat} {t : TypeId} {ti : TI} {cs : List PV} {c : Prop} {p : PV} {rs : List ResultVar} {ps : List PV} (hx : look env a = .ptr (τ.length + k) off) (hti : tl tt t = some ti) (hi : ex[k]? = some (.cells cs)) (hl : loadB ti cs off = some (c, p)) (hc : c)
    (h : ResRel tt env (τ ++ ex) rs ps) : ResRel tt env (τ ++ ex) (.cell a t :: rs) (p :: ps) := ⟨⟨_, _, _, _, _, hx, hti, (getX k).trans hi, hl, hc⟩, h⟩
theorem fn_endN {fn : Func} {R : PV → Sto → Prop} {e : Exit} {σ : Sto} (ps : List PV) (he : e = .normal ∨ e = .ret) (hres : ResRel tt env σ fn.results.toList ps) (htup : ps.all (fun p => !p.isTup) = true) (hσ : σ = τ ++ ex) (hm : m ≤ τ.length) (hlt : ltAll τ.length ps) (hst : StoOK τ)
    (hR : R (resOf ps) τ) : fnPost tt fn m R e env σ := by
  refine ⟨he, ps, τ, ex, hres, fun p hp => ?_, hσ, .inr ⟨hm, hst⟩, hlt, hR⟩
  have := List.all_eq_true.1 htup p hp
  simpa using this

theorem sat_sto {c : Code} {σ σ' : Sto} (he : σ = σ') (h : Sat P l n m c env σ' Q) : Sat P l n m c env σ Q := by rw [he]; exact h
theorem ops_sto {os : List Oper} {σ σ' : Sto} (he : σ = σ') (h : SatOps P l n m all os env σ' Q) : SatOps P l n m all os env σ Q := by rw [he]; exact h

theorem lk_pick {σ : Sto} {x y z : Operand} {b : Bool} {p : PV} (hc : opv tt env ty x = .bool b) (hp : (b = true ∧ opv tt env ty y = p) ∨ (b = false ∧ opv tt env ty z = p)) : LookAt P n m env σ ⟨dd, .pick x y z, ty, pos, after, g⟩ p := by
  refine LookAt.norm (LookAt.of (fun F G a w hs => look_pick (tt := tt) hs) (c := True) ?_ trivial)
  unfold pickP
  rw [hc]
  rcases hp with ⟨rfl, rfl⟩ | ⟨rfl, rfl⟩ <;> rfl

theorem bool_eta_cond {b : Bool} (h : b = true → False) : b = false := by cases b; rfl; exact (h rfl).elim
end

section
variable {P : Program} {l : Option Nat} {n m : Nat} {all : Array Oper} {rest : List Oper} {env : Env} {σ : Sto} {Q : Post} {dd : Option Nat} {ty : TypeId} {pos : String} {after : Array Edge} {g : Option (Nat × Bool)} {p : PV} {K : Env → Prop}
theorem og_guard {op : Op} {j : Nat} {b : Bool} (h : SatOps P l n m all (⟨dd, op, ty, pos, after, some (j, b)⟩ :: rest) env σ Q) : SatOps P l n m all (⟨dd, op, ty, pos, after, some (j, b)⟩ :: rest) env σ Q := h
theorem og_ops {os : List Oper} (h : SatOps P l n m all os env σ Q) : SatOps P l n m all os env σ Q := h
theorem og_sat {c : Code} (h : Sat P l n m c env σ Q) : Sat P l n m c env σ Q := h
theorem og_dd {os : List Oper} (h : DrawD P l n m all env σ os K) : DrawD P l n m all env σ os K := h
theorem og_move {x : Operand} (h : SatOps P l n m all (⟨dd, .move x, ty, pos, after, none⟩ :: rest) env σ Q) : SatOps P l n m all (⟨dd, .move x, ty, pos, after, none⟩ :: rest) env σ Q := h
theorem lg_move {x : Operand} (h : LookAt P n m env σ ⟨dd, .move x, ty, pos, after, g⟩ p) : LookAt P n m env σ ⟨dd, .move x, ty, pos, after, g⟩ p := h
theorem og_assign {x : Operand} (h : SatOps P l n m all (⟨dd, .assign x, ty, pos, after, none⟩ :: rest) env σ Q) : SatOps P l n m all (⟨dd, .assign x, ty, pos, after, none⟩ :: rest) env σ Q := h
theorem lg_assign {x : Operand} (h : LookAt P n m env σ ⟨dd, .assign x, ty, pos, after, g⟩ p) : LookAt P n m env σ ⟨dd, .assign x, ty, pos, after, g⟩ p := h
theorem og_bin {op : BinOp} {xT yT : TypeId} {x y : Operand} (h : SatOps P l n m all (⟨dd, .binOp op xT x y yT, ty, pos, after, none⟩ :: rest) env σ Q) : SatOps P l n m all (⟨dd, .binOp op xT x y yT, ty, pos, after, none⟩ :: rest) env σ Q := h
theorem lg_bin {op : BinOp} {xT yT : TypeId} {x y : Operand} (h : LookAt P n m env σ ⟨dd, .binOp op xT x y yT, ty, pos, after, g⟩ p) : LookAt P n m env σ ⟨dd, .binOp op xT x y yT, ty, pos, after, g⟩ p := h
theorem og_un {op : UnOp} {xT : TypeId} {x : Operand} (h : SatOps P l n m all (⟨dd, .unOp op xT x, ty, pos, after, none⟩ :: rest) env σ Q) : SatOps P l n m all (⟨dd, .unOp op xT x, ty, pos, after, none⟩ :: rest) env σ Q := h
theorem lg_un {op : UnOp} {xT : TypeId} {x : Operand} (h : LookAt P n m env σ ⟨dd, .unOp op xT x, ty, pos, after, g⟩ p) : LookAt P n m env σ ⟨dd, .unOp op xT x, ty, pos, after, g⟩ p := h
theorem og_conv {a b : TypeId} {x : Operand} (h : SatOps P l n m all (⟨dd, .convert a b x, ty, pos, after, none⟩ :: rest) env σ Q) : SatOps P l n m all (⟨dd, .convert a b x, ty, pos, after, none⟩ :: rest) env σ Q := h
theorem lg_conv {a b : TypeId} {x : Operand} (h : LookAt P n m env σ ⟨dd, .convert a b x, ty, pos, after, g⟩ p) : LookAt P n m env σ ⟨dd, .convert a b x, ty, pos, after, g⟩ p := h
theorem og_fieldAddr {t : TypeId} {x : Operand} {f : Nat} (h : SatOps P l n m all (⟨dd, .fieldAddr t x f, ty, pos, after, none⟩ :: rest) env σ Q) : SatOps P l n m all (⟨dd, .fieldAddr t x f, ty, pos, after, none⟩ :: rest) env σ Q := h
theorem lg_fieldAddr {t : TypeId} {x : Operand} {f : Nat} (h : LookAt P n m env σ ⟨dd, .fieldAddr t x f, ty, pos, after, g⟩ p) : LookAt P n m env σ ⟨dd, .fieldAddr t x f, ty, pos, after, g⟩ p := h
theorem og_field {t : TypeId} {x : Operand} {f : Nat} (h : SatOps P l n m all (⟨dd, .field t x f, ty, pos, after, none⟩ :: rest) env σ Q) : SatOps P l n m all (⟨dd, .field t x f, ty, pos, after, none⟩ :: rest) env σ Q := h
theorem lg_field {t : TypeId} {x : Operand} {f : Nat} (h : LookAt P n m env σ ⟨dd, .field t x f, ty, pos, after, g⟩ p) : LookAt P n m env σ ⟨dd, .field t x f, ty, pos, after, g⟩ p := h
theorem og_extract {x : Operand} {k : Nat} (h : SatOps P l n m all (⟨dd, .extract x k, ty, pos, after, none⟩ :: rest) env σ Q) : SatOps P l n m all (⟨dd, .extract x k, ty, pos, after, none⟩ :: rest) env σ Q := h
theorem lg_extract {x : Operand} {k : Nat} (h : LookAt P n m env σ ⟨dd, .extract x k, ty, pos, after, g⟩ p) : LookAt P n m env σ ⟨dd, .extract x k, ty, pos, after, g⟩ p := h
theorem og_load {t : TypeId} {x : Operand} (h : SatOps P l n m all (⟨dd, .load t x, ty, pos, after, none⟩ :: rest) env σ Q) : SatOps P l n m all (⟨dd, .load t x, ty, pos, after, none⟩ :: rest) env σ Q := h
theorem lg_load {t : TypeId} {x : Operand} (h : LookAt P n m env σ ⟨dd, .load t x, ty, pos, after, g⟩ p) : LookAt P n m env σ ⟨dd, .load t x, ty, pos, after, g⟩ p := h
theorem og_index {t : TypeId} {x y : Operand} (h : SatOps P l n m all (⟨dd, .index t x y, ty, pos, after, none⟩ :: rest) env σ Q) : SatOps P l n m all (⟨dd, .index t x y, ty, pos, after, none⟩ :: rest) env σ Q := h
theorem lg_index {t : TypeId} {x y : Operand} (h : LookAt P n m env σ ⟨dd, .index t x y, ty, pos, after, g⟩ p) : LookAt P n m env σ ⟨dd, .index t x y, ty, pos, after, g⟩ p := h
theorem og_indexAddr {t : TypeId} {x y : Operand} (h : SatOps P l n m all (⟨dd, .indexAddr t x y, ty, pos, after, none⟩ :: rest) env σ Q) : SatOps P l n m all (⟨dd, .indexAddr t x y, ty, pos, after, none⟩ :: rest) env σ Q := h
theorem lg_indexAddr {t : TypeId} {x y : Operand} (h : LookAt P n m env σ ⟨dd, .indexAddr t x y, ty, pos, after, g⟩ p) : LookAt P n m env σ ⟨dd, .indexAddr t x y, ty, pos, after, g⟩ p := h
theorem og_store {t : TypeId} {x y : Operand} (h : SatOps P l n m all (⟨dd, .store t x y, ty, pos, after, none⟩ :: rest) env σ Q) : SatOps P l n m all (⟨dd, .store t x y, ty, pos, after, none⟩ :: rest) env σ Q := h
theorem lg_store {t : TypeId} {x y : Operand} (h : LookAt P n m env σ ⟨dd, .store t x y, ty, pos, after, g⟩ p) : LookAt P n m env σ ⟨dd, .store t x y, ty, pos, after, g⟩ p := h
theorem og_callv {f : FuncId} {a : Array Operand} {ts : Array TypeId} (h : SatOps P l n m all (⟨dd, .call ⟨.value (.func f), a, ts⟩, ty, pos, after, none⟩ :: rest) env σ Q) : SatOps P l n m all (⟨dd, .call ⟨.value (.func f), a, ts⟩, ty, pos, after, none⟩ :: rest) env σ Q := h
theorem lg_callv {f : FuncId} {a : Array Operand} {ts : Array TypeId} (h : LookAt P n m env σ ⟨dd, .call ⟨.value (.func f), a, ts⟩, ty, pos, after, g⟩ p) : LookAt P n m env σ ⟨dd, .call ⟨.value (.func f), a, ts⟩, ty, pos, after, g⟩ p := h
theorem og_callt {f : Nat} {a : Array Operand} {ts : Array TypeId} (h : SatOps P l n m all (⟨dd, .call ⟨.value (.tmp f), a, ts⟩, ty, pos, after, none⟩ :: rest) env σ Q) : SatOps P l n m all (⟨dd, .call ⟨.value (.tmp f), a, ts⟩, ty, pos, after, none⟩ :: rest) env σ Q := h
theorem lg_callt {f : Nat} {a : Array Operand} {ts : Array TypeId} (h : LookAt P n m env σ ⟨dd, .call ⟨.value (.tmp f), a, ts⟩, ty, pos, after, g⟩ p) : LookAt P n m env σ ⟨dd, .call ⟨.value (.tmp f), a, ts⟩, ty, pos, after, g⟩ p := h
theorem og_callb {b : Builtin} {a : Array Operand} {ts : Array TypeId} (h : SatOps P l n m all (⟨dd, .call ⟨.builtin b, a, ts⟩, ty, pos, after, none⟩ :: rest) env σ Q) : SatOps P l n m all (⟨dd, .call ⟨.builtin b, a, ts⟩, ty, pos, after, none⟩ :: rest) env σ Q := h
theorem lg_callb {b : Builtin} {a : Array Operand} {ts : Array TypeId} (h : LookAt P n m env σ ⟨dd, .call ⟨.builtin b, a, ts⟩, ty, pos, after, g⟩ p) : LookAt P n m env σ ⟨dd, .call ⟨.builtin b, a, ts⟩, ty, pos, after, g⟩ p := h
theorem og_slice {t : TypeId} {x : Operand} {lo hi mx : Option Operand} (h : SatOps P l n m all (⟨dd, .slice t x lo hi mx, ty, pos, after, none⟩ :: rest) env σ Q) : SatOps P l n m all (⟨dd, .slice t x lo hi mx, ty, pos, after, none⟩ :: rest) env σ Q := h
theorem lg_slice {t : TypeId} {x : Operand} {lo hi mx : Option Operand} (h : LookAt P n m env σ ⟨dd, .slice t x lo hi mx, ty, pos, after, g⟩ p) : LookAt P n m env σ ⟨dd, .slice t x lo hi mx, ty, pos, after, g⟩ p := h
theorem og_build {t : TypeId} {ps : Array (Nat × Operand)} (h : SatOps P l n m all (⟨dd, .build t ps, ty, pos, after, none⟩ :: rest) env σ Q) : SatOps P l n m all (⟨dd, .build t ps, ty, pos, after, none⟩ :: rest) env σ Q := h
theorem lg_build {t : TypeId} {ps : Array (Nat × Operand)} (h : LookAt P n m env σ ⟨dd, .build t ps, ty, pos, after, g⟩ p) : LookAt P n m env σ ⟨dd, .build t ps, ty, pos, after, g⟩ p := h
theorem og_buildSlice {t : TypeId} {k : Nat} {ps : Array (Nat × Operand)} (h : SatOps P l n m all (⟨dd, .buildSlice t k ps, ty, pos, after, none⟩ :: rest) env σ Q) : SatOps P l n m all (⟨dd, .buildSlice t k ps, ty, pos, after, none⟩ :: rest) env σ Q := h
theorem lg_buildSlice {t : TypeId} {k : Nat} {ps : Array (Nat × Operand)} (h : LookAt P n m env σ ⟨dd, .buildSlice t k ps, ty, pos, after, g⟩ p) : LookAt P n m env σ ⟨dd, .buildSlice t k ps, ty, pos, after, g⟩ p := h
theorem og_makeFunc {f : Fn} {a b : Array Operand} (h : SatOps P l n m all (⟨dd, .makeFunc f a b, ty, pos, after, none⟩ :: rest) env σ Q) : SatOps P l n m all (⟨dd, .makeFunc f a b, ty, pos, after, none⟩ :: rest) env σ Q := h
theorem lg_makeFunc {f : Fn} {a b : Array Operand} (h : LookAt P n m env σ ⟨dd, .makeFunc f a b, ty, pos, after, g⟩ p) : LookAt P n m env σ ⟨dd, .makeFunc f a b, ty, pos, after, g⟩ p := h
theorem og_makeSlice {t : TypeId} {x y : Operand} (h : SatOps P l n m all (⟨dd, .makeSlice t x y, ty, pos, after, none⟩ :: rest) env σ Q) : SatOps P l n m all (⟨dd, .makeSlice t x y, ty, pos, after, none⟩ :: rest) env σ Q := h
theorem lg_makeSlice {t : TypeId} {x y : Operand} (h : LookAt P n m env σ ⟨dd, .makeSlice t x y, ty, pos, after, g⟩ p) : LookAt P n m env σ ⟨dd, .makeSlice t x y, ty, pos, after, g⟩ p := h
theorem og_alloc {t : TypeId} (h : SatOps P l n m all (⟨dd, .alloc t, ty, pos, after, none⟩ :: rest) env σ Q) : SatOps P l n m all (⟨dd, .alloc t, ty, pos, after, none⟩ :: rest) env σ Q := h
theorem lg_alloc {t : TypeId} (h : LookAt P n m env σ ⟨dd, .alloc t, ty, pos, after, g⟩ p) : LookAt P n m env σ ⟨dd, .alloc t, ty, pos, after, g⟩ p := h
theorem og_box {t : TypeId} {x : Operand} (h : SatOps P l n m all (⟨dd, .box t x, ty, pos, after, none⟩ :: rest) env σ Q) : SatOps P l n m all (⟨dd, .box t x, ty, pos, after, none⟩ :: rest) env σ Q := h
theorem lg_box {t : TypeId} {x : Operand} (h : LookAt P n m env σ ⟨dd, .box t x, ty, pos, after, g⟩ p) : LookAt P n m env σ ⟨dd, .box t x, ty, pos, after, g⟩ p := h
theorem og_pick {x y z : Operand} (h : SatOps P l n m all (⟨dd, .pick x y z, ty, pos, after, none⟩ :: rest) env σ Q) : SatOps P l n m all (⟨dd, .pick x y z, ty, pos, after, none⟩ :: rest) env σ Q := h
theorem lg_pick {x y z : Operand} (h : LookAt P n m env σ ⟨dd, .pick x y z, ty, pos, after, g⟩ p) : LookAt P n m env σ ⟨dd, .pick x y z, ty, pos, after, g⟩ p := h
theorem og_nilCheck {x : Operand} (h : SatOps P l n m all (⟨dd, .nilCheck x, ty, pos, after, none⟩ :: rest) env σ Q) : SatOps P l n m all (⟨dd, .nilCheck x, ty, pos, after, none⟩ :: rest) env σ Q := h
theorem lg_nilCheck {x : Operand} (h : LookAt P n m env σ ⟨dd, .nilCheck x, ty, pos, after, g⟩ p) : LookAt P n m env σ ⟨dd, .nilCheck x, ty, pos, after, g⟩ p := h
end
end Go.Proofs.Ytflgoabdgibphaa.Pv
