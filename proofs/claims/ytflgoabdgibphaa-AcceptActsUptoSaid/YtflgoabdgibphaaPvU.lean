/- What operations that only look yield: for the regions that draw their order. -/
import Derived.Test.YtflgoabdgibphaaPvT
namespace Go.Proofs.Ytflgoabdgibphaa.Pv
open Go
set_option linter.unusedVariables false
set_option linter.unusedSimpArgs false

section
variable {P : Program} {tt : TT} {n m : Nat} {env : Env} {σ : Sto} {d : Option Nat} {ty : TypeId} {pos : String} {after : Array Edge} {g : Option (Nat × Bool)} {c : Prop} {p : PV}
theorem LookAt.norm {op : Op} (h : LookAt P n m env σ ⟨some 0, op, ty, "", #[], none⟩ p) : LookAt P n m env σ ⟨d, op, ty, pos, after, g⟩ p := ⟨h.go⟩

theorem lk_move {x : Operand} (hp : opv tt env ty x = p) : LookAt P n m env σ ⟨d, .move x, ty, pos, after, g⟩ p :=
  LookAt.norm (LookAt.of (fun F G a w hs => look_move (tt := tt) hs) (by rw [hp]) trivial)
theorem lk_assign {x : Operand} (hp : opv tt env ty x = p) : LookAt P n m env σ ⟨d, .assign x, ty, pos, after, g⟩ p :=
  LookAt.norm (LookAt.of (fun F G a w hs => look_assign (tt := tt) hs) (by rw [hp]) trivial)
theorem lk_bin (ex : Bool) (ht : TabOK P tt) {op : BinOp} {xT yT : TypeId} {x y : Operand} (hp : binOpP ex tt op xT (opv tt env xT x) (opv tt env yT y) = some (c, p)) (hc : c) : LookAt P n m env σ ⟨d, .binOp op xT x y yT, ty, pos, after, g⟩ p :=
  LookAt.norm (LookAt.of (fun F G a w hs => look_binOp ht ex hs) hp hc)
theorem lk_un (ex : Bool) {op : UnOp} {xT : TypeId} {x : Operand} (hp : unP ex op (opv tt env xT x) = some (c, p)) (hc : c) : LookAt P n m env σ ⟨d, .unOp op xT x, ty, pos, after, g⟩ p :=
  LookAt.norm (LookAt.of (fun F G a w hs => look_unOp hs ex) hp hc)
theorem lk_conv (ex : Bool) (ht : TabOK P tt) {src dst : TypeId} {x : Operand} (hp : convP ex tt src dst (opv tt env src x) = some (c, p)) (hc : c) : LookAt P n m env σ ⟨d, .convert src dst x, ty, pos, after, g⟩ p :=
  LookAt.norm (LookAt.of (fun F G a w hs => look_convert ht hs ex) hp hc)
theorem lk_fieldAddr (ht : TabOK P tt) {sT : TypeId} {f : Nat} {x : Operand} (hp : fieldAddrP tt sT f (opv tt env sT x) = some (c, p)) (hc : c) : LookAt P n m env σ ⟨d, .fieldAddr sT x f, ty, pos, after, g⟩ p :=
  LookAt.norm (LookAt.of (fun F G a w hs => look_fieldAddr ht hs) hp hc)
theorem lk_field (ht : TabOK P tt) {sT : TypeId} {f : Nat} {x : Operand} (hp : fieldP tt sT f (opv tt env sT x) = some (c, p)) (hc : c) : LookAt P n m env σ ⟨d, .field sT x f, ty, pos, after, g⟩ p :=
  LookAt.norm (LookAt.of (fun F G a w hs => look_field ht hs) hp hc)
theorem lk_extract {k : Nat} {x : Operand} (hp : extractP k (opv tt env ty x) = some (c, p)) (hc : c) : LookAt P n m env σ ⟨d, .extract x k, ty, pos, after, g⟩ p :=
  LookAt.norm (LookAt.of (fun F G a w hs => look_extract (tt := tt) hs) hp hc)
theorem lk_load (ht : TabOK P tt) {t : TypeId} {x : Operand} (hp : loadP tt t (opv tt env t x) = some (c, p)) (hc : c) : LookAt P n m env σ ⟨d, .load t x, ty, pos, after, g⟩ p :=
  LookAt.norm (LookAt.of (fun F G a w hs => look_load ht hs) hp hc)
theorem lk_indexAddr (ht : TabOK P tt) {t tI : TypeId} {x i : Operand} (hp : indexAddrP tt t (opv tt env t x) (opv tt env tI i) = some (c, p)) (hc : c) : LookAt P n m env σ ⟨d, .indexAddr t x i, ty, pos, after, g⟩ p :=
  LookAt.norm (LookAt.of (fun F G a w hs => look_indexAddr ht hs) hp hc)
theorem lk_index (ht : TabOK P tt) {t tI : TypeId} {x i : Operand} (hp : indexP tt t (opv tt env t x) (opv tt env tI i) = some (c, p)) (hc : c) : LookAt P n m env σ ⟨d, .index t x i, ty, pos, after, g⟩ p :=
  LookAt.norm (LookAt.of (fun F G a w hs => look_index ht hs) hp hc)
theorem lk_len (ht : TabOK P tt) {t : TypeId} {x : Operand} (hp : lenP tt t (opv tt env t x) = some (c, p)) (hc : c) : LookAt P n m env σ ⟨d, .call ⟨.builtin .len, #[x], #[t]⟩, ty, pos, after, g⟩ p :=
  LookAt.norm (LookAt.of (fun F G a w hs => look_len ht hs) hp hc)
theorem lk_max {t1 t2 : TypeId} {x y : Operand} (hp : maxP true (opv tt env t1 x) (opv tt env t2 y) = some (c, p)) (hc : c) : LookAt P n m env σ ⟨d, .call ⟨.builtin .max, #[x, y], #[t1, t2]⟩, ty, pos, after, g⟩ p :=
  LookAt.norm (LookAt.of (fun F G a w hs => look_max hs) hp hc)
theorem lk_min {t1 t2 : TypeId} {x y : Operand} (hp : maxP false (opv tt env t1 x) (opv tt env t2 y) = some (c, p)) (hc : c) : LookAt P n m env σ ⟨d, .call ⟨.builtin .min, #[x, y], #[t1, t2]⟩, ty, pos, after, g⟩ p :=
  LookAt.norm (LookAt.of (fun F G a w hs => look_min hs) hp hc)

end
end Go.Proofs.Ytflgoabdgibphaa.Pv
