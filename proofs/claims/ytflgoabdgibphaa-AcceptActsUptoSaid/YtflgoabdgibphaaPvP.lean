/- The operations' rules, one for each kind, in the form in which they are used. -/
import Derived.Test.YtflgoabdgibphaaPvO
namespace Go.Proofs.Ytflgoabdgibphaa.Pv
open Go
set_option linter.unusedVariables false
set_option linter.unusedSimpArgs false

theorem ltn {d n : Nat} (h : Nat.ble (d + 1) n = true) : d < n := Nat.le_of_ble_eq_true h

section
variable {P : Program} {l : Option Nat} {tt : TT} {n m : Nat} {all : Array Oper} {rest : List Oper} {env : Env} {σ : Sto} {Q : Post} {d : Nat} {ty : TypeId} {pos : String} {after : Array Edge} {c : Prop} {p : PV}

theorem op_move {x : Operand} (hp : opv tt env ty x = p) (hd : Nat.ble (d + 1) n = true) (h : SatOps P l n m all rest ((d, p) :: env) σ Q) : SatOps P l n m all (⟨some d, .move x, ty, pos, after, none⟩ :: rest) env σ Q :=
  op_look (ltn hd) (by simp) (fun F G a w hs => look_move (tt := tt) hs) (by rw [hp]) trivial h
theorem op_assign {x : Operand} (hp : opv tt env ty x = p) (hd : Nat.ble (d + 1) n = true) (h : SatOps P l n m all rest ((d, p) :: env) σ Q) : SatOps P l n m all (⟨some d, .assign x, ty, pos, after, none⟩ :: rest) env σ Q :=
  op_look (ltn hd) (by simp) (fun F G a w hs => look_assign (tt := tt) hs) (by rw [hp]) trivial h
theorem op_bin (ex : Bool) (ht : TabOK P tt) {op : BinOp} {xT yT : TypeId} {x y : Operand} (hp : binOpP ex tt op xT (opv tt env xT x) (opv tt env yT y) = some (c, p)) (hc : c) (hd : Nat.ble (d + 1) n = true)
    (h : SatOps P l n m all rest ((d, p) :: env) σ Q) : SatOps P l n m all (⟨some d, .binOp op xT x y yT, ty, pos, after, none⟩ :: rest) env σ Q :=
  op_look (ltn hd) (by simp) (fun F G a w hs => look_binOp ht ex hs) hp hc h
theorem op_un (ex : Bool) {op : UnOp} {xT : TypeId} {x : Operand} (hp : unP ex op (opv tt env xT x) = some (c, p)) (hc : c) (hd : Nat.ble (d + 1) n = true)
    (h : SatOps P l n m all rest ((d, p) :: env) σ Q) : SatOps P l n m all (⟨some d, .unOp op xT x, ty, pos, after, none⟩ :: rest) env σ Q :=
  op_look (ltn hd) (by simp) (fun F G a w hs => look_unOp hs ex) hp hc h
theorem op_conv (ex : Bool) (ht : TabOK P tt) {src dst : TypeId} {x : Operand} (hp : convP ex tt src dst (opv tt env src x) = some (c, p)) (hc : c) (hd : Nat.ble (d + 1) n = true)
    (h : SatOps P l n m all rest ((d, p) :: env) σ Q) : SatOps P l n m all (⟨some d, .convert src dst x, ty, pos, after, none⟩ :: rest) env σ Q :=
  op_look (ltn hd) (by simp) (fun F G a w hs => look_convert ht hs ex) hp hc h
theorem op_fieldAddr (ht : TabOK P tt) {sT : TypeId} {f : Nat} {x : Operand} (hp : fieldAddrP tt sT f (opv tt env sT x) = some (c, p)) (hc : c) (hd : Nat.ble (d + 1) n = true)
    (h : SatOps P l n m all rest ((d, p) :: env) σ Q) : SatOps P l n m all (⟨some d, .fieldAddr sT x f, ty, pos, after, none⟩ :: rest) env σ Q :=
  op_look (ltn hd) (by simp) (fun F G a w hs => look_fieldAddr ht hs) hp hc h
theorem op_field (ht : TabOK P tt) {sT : TypeId} {f : Nat} {x : Operand} (hp : fieldP tt sT f (opv tt env sT x) = some (c, p)) (hc : c) (hd : Nat.ble (d + 1) n = true)
    (h : SatOps P l n m all rest ((d, p) :: env) σ Q) : SatOps P l n m all (⟨some d, .field sT x f, ty, pos, after, none⟩ :: rest) env σ Q :=
  op_look (ltn hd) (by simp) (fun F G a w hs => look_field ht hs) hp hc h
theorem op_extract {k : Nat} {x : Operand} (hp : extractP k (opv tt env ty x) = some (c, p)) (hc : c) (hd : Nat.ble (d + 1) n = true)
    (h : SatOps P l n m all rest ((d, p) :: env) σ Q) : SatOps P l n m all (⟨some d, .extract x k, ty, pos, after, none⟩ :: rest) env σ Q :=
  op_look (ltn hd) (by simp) (fun F G a w hs => look_extract (tt := tt) hs) hp hc h
theorem op_load (ht : TabOK P tt) {t : TypeId} {x : Operand} (hp : loadP tt t (opv tt env t x) = some (c, p)) (hc : c) (hd : Nat.ble (d + 1) n = true)
    (h : SatOps P l n m all rest ((d, p) :: env) σ Q) : SatOps P l n m all (⟨some d, .load t x, ty, pos, after, none⟩ :: rest) env σ Q :=
  op_look (ltn hd) (by simp) (fun F G a w hs => look_load ht hs) hp hc h
theorem op_indexAddr (ht : TabOK P tt) {t tI : TypeId} {x i : Operand} (hp : indexAddrP tt t (opv tt env t x) (opv tt env tI i) = some (c, p)) (hc : c) (hd : Nat.ble (d + 1) n = true)
    (h : SatOps P l n m all rest ((d, p) :: env) σ Q) : SatOps P l n m all (⟨some d, .indexAddr t x i, ty, pos, after, none⟩ :: rest) env σ Q :=
  op_look (ltn hd) (by simp) (fun F G a w hs => look_indexAddr ht hs) hp hc h
theorem op_index (ht : TabOK P tt) {t tI : TypeId} {x i : Operand} (hp : indexP tt t (opv tt env t x) (opv tt env tI i) = some (c, p)) (hc : c) (hd : Nat.ble (d + 1) n = true)
    (h : SatOps P l n m all rest ((d, p) :: env) σ Q) : SatOps P l n m all (⟨some d, .index t x i, ty, pos, after, none⟩ :: rest) env σ Q :=
  op_look (ltn hd) (by simp) (fun F G a w hs => look_index ht hs) hp hc h
theorem op_len (ht : TabOK P tt) {t : TypeId} {x : Operand} (hp : lenP tt t (opv tt env t x) = some (c, p)) (hc : c) (hd : Nat.ble (d + 1) n = true)
    (h : SatOps P l n m all rest ((d, p) :: env) σ Q) : SatOps P l n m all (⟨some d, .call ⟨.builtin .len, #[x], #[t]⟩, ty, pos, after, none⟩ :: rest) env σ Q :=
  op_look (ltn hd) (by simp) (fun F G a w hs => look_len ht hs) hp hc h
theorem op_max {t1 t2 : TypeId} {x y : Operand} (hp : maxP true (opv tt env t1 x) (opv tt env t2 y) = some (c, p)) (hc : c) (hd : Nat.ble (d + 1) n = true)
    (h : SatOps P l n m all rest ((d, p) :: env) σ Q) : SatOps P l n m all (⟨some d, .call ⟨.builtin .max, #[x, y], #[t1, t2]⟩, ty, pos, after, none⟩ :: rest) env σ Q :=
  op_look (ltn hd) (by simp) (fun F G a w hs => look_max hs) hp hc h
theorem op_min {t1 t2 : TypeId} {x y : Operand} (hp : maxP false (opv tt env t1 x) (opv tt env t2 y) = some (c, p)) (hc : c) (hd : Nat.ble (d + 1) n = true)
    (h : SatOps P l n m all rest ((d, p) :: env) σ Q) : SatOps P l n m all (⟨some d, .call ⟨.builtin .min, #[x, y], #[t1, t2]⟩, ty, pos, after, none⟩ :: rest) env σ Q :=
  op_look (ltn hd) (by simp) (fun F G a w hs => look_min hs) hp hc h

/-- Several parts of a struct that is built. -/
def fillP (tt : TT) (t : TypeId) (env : Env) : List PV → List (Nat × Operand) → Option (List PV)
  | cs, [] => some cs
  | cs, (f, x) :: r => match fld tt t f with
    | some (off, i) => (match Nat.beq (opv tt env 0 x).cells.length i.size && Nat.ble (off + i.size) cs.length with
      | true => fillP tt t env (putAt cs off (opv tt env 0 x).cells) r
      | false => none)
    | none => none

end
end Go.Proofs.Ytflgoabdgibphaa.Pv
