/- Boxes of one's own behind the store that was there. -/
import Derived.Test.YtflgoabdgibphaaPvY
namespace Go.Proofs.Ytflgoabdgibphaa.Pv
open Go
set_option linter.unusedVariables false
set_option linter.unusedSimpArgs false

section
variable {P : Program} {l : Option Nat} {tt : TT} {n m : Nat} {all : Array Oper} {rest : List Oper} {env : Env} {τ ex : Sto} {Q : Post} {d : Nat} {dd : Option Nat} {ty : TypeId} {pos : String} {after : Array Edge} {g : Option (Nat × Bool)}

theorem sat_base {c : Code} {σ : Sto} (h : Sat P l n m c env (σ ++ []) Q) : Sat P l n m c env σ Q := by rw [List.append_nil] at h; exact h

theorem getX (k : Nat) : (τ ++ ex)[τ.length + k]? = ex[k]? := by rw [List.getElem?_append_right (Nat.le_add_right _ _), Nat.add_sub_cancel_left]
theorem setX (k : Nat) (e : Ent) : (τ ++ ex).set (τ.length + k) e = τ ++ ex.set k e := by rw [List.set_append_right _ _ (Nat.le_add_right _ _), Nat.add_sub_cancel_left]
theorem getL {i : Nat} {e : Ent} (h : τ[i]? = some e) : (τ ++ ex)[i]? = some e := by rw [List.getElem?_append_left (List.getElem?_eq_some_iff.1 h).1]; exact h

theorem op_boxX {t : TypeId} {x : Operand} {p : PV} {k : Nat} (hp : opv tt env t x = p) (hS : p.isS = true) (hk : ex.length = k) (hd : Nat.ble (d + 1) n = true)
    (h : SatOps P l n m all rest ((d, .ptr (τ.length + k) 0) :: env) (τ ++ (ex ++ [.cells p.cells])) Q) : SatOps P l n m all (⟨some d, .box t x, ty, pos, after, none⟩ :: rest) env (τ ++ ex) Q := by
  refine op_box hp hS (ltn hd) ?_
  rw [List.length_append, hk, List.append_assoc]; exact h

theorem op_boxTX {t : TypeId} {u : Nat} {p : PV} {k : Nat} (hp : look env u = p) (ho : p.isOwn = true) (hk : ex.length = k) (hd : Nat.ble (d + 1) n = true)
    (h : SatOps P l n m all rest ((d, .ptr (τ.length + k) 0) :: (u, left1 p) :: env) (τ ++ (ex ++ [.cells [p]])) Q) : SatOps P l n m all (⟨some d, .box t (.tmp u), ty, pos, after, none⟩ :: rest) env (τ ++ ex) Q := by
  refine op_boxT hp ho (ltn hd) ?_
  rw [List.length_append, hk, List.append_assoc]; exact h

theorem op_allocX (ht : TabOK P tt) {t : TypeId} {i : TI} {k : Nat} {cs : List PV} (hi : tl tt t = some i) (hc : i.zero.map own0 = cs) (hk : ex.length = k) (hd : Nat.ble (d + 1) n = true)
    (h : SatOps P l n m all rest ((d, .ptr (τ.length + k) 0) :: env) (τ ++ (ex ++ [.cells cs])) Q) : SatOps P l n m all (⟨some d, .alloc t, ty, pos, after, none⟩ :: rest) env (τ ++ ex) Q := by
  refine op_alloc ht hi (ltn hd) ?_
  rw [List.length_append, hk, List.append_assoc, hc]; exact h

theorem op_loadX (ht : TabOK P tt) {t : TypeId} {x : Operand} {k off : Nat} {ti : TI} {cs : List PV} {c : Prop} {p : PV} (hx : opv tt env t x = .ptr (τ.length + k) off) (hti : tl tt t = some ti)
    (hi : ex[k]? = some (.cells cs)) (hl : loadB ti cs off = some (c, p)) (hc : c) (hd : Nat.ble (d + 1) n = true) (h : SatOps P l n m all rest ((d, p) :: env) (τ ++ ex) Q) :
    SatOps P l n m all (⟨some d, .load t x, ty, pos, after, none⟩ :: rest) env (τ ++ ex) Q :=
  op_loadB ht hx hti ((getX k).trans hi) hl hc (ltn hd) h

theorem op_loadTX (ht : TabOK P tt) {t : TypeId} {x : Operand} {k off : Nat} {ti : TI} {cs : List PV} {p : PV} (hx : opv tt env t x = .ptr (τ.length + k) off) (hti : tl tt t = some ti) (hnd : aggD ti.desc = false)
    (hi : ex[k]? = some (.cells cs)) (hp : cs[off]? = some p) (ho : p.isOwn = true) (hd : Nat.ble (d + 1) n = true) (h : SatOps P l n m all rest ((d, p) :: env) (τ ++ ex.set k (.cells (cs.set off (left1 p)))) Q) :
    SatOps P l n m all (⟨some d, .load t x, ty, pos, after, none⟩ :: rest) env (τ ++ ex) Q := by
  refine op_loadT ht hx hti hnd ((getX k).trans hi) hp ho (ltn hd) ?_
  rw [setX]; exact h

theorem op_storeX (ht : TabOK P tt) {t : TypeId} {x y : Operand} {k off : Nat} {ti : TI} {cs : List PV} {p : PV} (hx : opv tt env t x = .ptr (τ.length + k) off) (hti : tl tt t = some ti)
    (hi : ex[k]? = some (.cells cs)) (hy : opv tt env t y = p) (hS : p.isS = true) (hn : Nat.beq p.cells.length ti.size = true) (h1 : p.cells.all PV.one = true) (hoff : Nat.ble (off + ti.size) cs.length = true)
    (h : SatOps P l n m all rest env (τ ++ ex.set k (.cells (putAt cs off p.cells))) Q) : SatOps P l n m all (⟨none, .store t x y, ty, pos, after, none⟩ :: rest) env (τ ++ ex) Q := by
  refine op_storeB ht hx hti ((getX k).trans hi) hy hS (Nat.eq_of_beq_eq_true hn) h1 (Nat.le_of_ble_eq_true hoff) ?_
  rw [setX]; exact h

theorem op_storeTX (ht : TabOK P tt) {t : TypeId} {x : Operand} {u : Nat} {k off : Nat} {ti : TI} {cs : List PV} {p : PV} (hx : opv tt env t x = .ptr (τ.length + k) off) (hti : tl tt t = some ti) (hsz : ti.size = 1)
    (hi : ex[k]? = some (.cells cs)) (hp : look env u = p) (ho : p.isOwn = true) (hoff : Nat.ble (off + 1) cs.length = true) (hux : x ≠ .tmp u)
    (h : SatOps P l n m all rest ((u, left1 p) :: env) (τ ++ ex.set k (.cells (cs.set off p))) Q) : SatOps P l n m all (⟨none, .store t x (.tmp u), ty, pos, after, none⟩ :: rest) env (τ ++ ex) Q := by
  refine op_storeT ht hx hti hsz ((getX k).trans hi) hp ho (Nat.le_of_ble_eq_true hoff) hux ?_
  rw [setX]; exact h

theorem lk_loadX (ht : TabOK P tt) {t : TypeId} {x : Operand} {k off : Nat} {ti : TI} {cs : List PV} {c : Prop} {p : PV} (hx : opv tt env t x = .ptr (τ.length + k) off) (hti : tl tt t = some ti)
    (hi : ex[k]? = some (.cells cs)) (hl : loadB ti cs off = some (c, p)) (hc : c) : LookAt P n m env (τ ++ ex) ⟨dd, .load t x, ty, pos, after, g⟩ p :=
  lk_loadB ht hx hti ((getX k).trans hi) hl hc

end

section
variable {P : Program} {l : Option Nat} {tt : TT} {n m : Nat} {all : Array Oper} {rest : List Oper} {env : Env} {σ : Sto} {Q : Post} {d : Nat} {ty : TypeId} {pos : String} {after : Array Edge}

theorem ix_guard {t : TypeId} {x i : Operand} {dst : Option Nat} (h : SatOps P l n m all (⟨dst, .indexAddr t x i, ty, pos, after, none⟩ :: rest) env σ Q) : SatOps P l n m all (⟨dst, .indexAddr t x i, ty, pos, after, none⟩ :: rest) env σ Q := h

/-- A call of a function that leaves the store as it is. -/
theorem op_callP {fo : Operand} {args : Array Operand} {ats : Array TypeId} {f : FuncId} {ps : List PV} {p : PV} (hcal : Callable P f) (hc : SatCall P f ps σ fun x σ' => x = p ∧ σ' = σ) (hfo : fo = .func f) (hps : passL tt env args.toList ats.toList = ps) (hlen : Nat.ble args.size ats.size = true)
    (htup : ps.all (fun p => !p.isTup) = true) (hd : Nat.ble (d + 1) n = true) (h : SatOps P l n m all rest ((d, p) :: env) σ Q) :
    SatOps P l n m all (⟨some d, .call ⟨.value fo, args, ats⟩, ty, pos, after, none⟩ :: rest) env σ Q :=
  op_call0 hcal hfo hps hlen htup hc hd fun _ _ ⟨e1, e2⟩ => by rw [e1, e2]; exact h

end

section
variable {N : Env → Sto → Prop} {Q : Post} {env : Env} {σ : Sto} {k k' : Nat}
theorem pe_norm (h : N env σ) : andThen N Q .normal env σ := ⟨h⟩
theorem pe_ret (h : Q .ret env σ) : andThen N Q .ret env σ := ⟨h⟩
theorem pe_exit (h : Q (.exit k) env σ) : andThen N Q (.exit k) env σ := ⟨h⟩
theorem pe_goto (h : Q (.goto k) env σ) : andThen N Q (.goto k) env σ := ⟨h⟩
theorem pb_norm (h : Q .normal env σ) : inBlk k Q .normal env σ := ⟨h⟩
theorem pb_ret (h : Q .ret env σ) : inBlk k Q .ret env σ := ⟨h⟩
theorem pb_goto (h : Q (.goto k') env σ) : inBlk k Q (.goto k') env σ := ⟨h⟩
theorem pb_same (h : Q .normal env σ) : inBlk k Q (.exit k) env σ := ⟨by simp only [inBlk0, if_true]; exact h⟩
theorem pb_exit (hn : Nat.beq k' k = false) (h : Q (.exit k') env σ) : inBlk k Q (.exit k') env σ := by
  refine ⟨?_⟩; simp only [inBlk0]; rw [if_neg (fun e => by rw [e] at hn; simp at hn)]; exact h
end

/-- The walk through a region that draws its order, in the text's order. -/
structure DrawTo (P : Program) (n m : Nat) (all : Array Oper) (env : Env) (σ : Sto) (ops : List Oper) (K : Env → Prop) : Prop where
  go : ∃ ps, DrawSteps P n m all σ env ops ps ∧ K (drawEnv env ops ps)

section
variable {P : Program} {l : Option Nat} {n m : Nat} {all : Array Oper} {env : Env} {σ : Sto} {Q : Post} {d : Nat} {op : Op} {ty : TypeId} {pos : String} {after : Array Edge} {os : List Oper} {K : Env → Prop} {p : PV}

theorem draw_nil (h : K env) : DrawTo P n m all env σ [] K := ⟨[], trivial, h⟩
theorem draw_lk (hl : LookAt P n m (restr env (readsOf all ⟨some d, op, ty, pos, after, none⟩)) σ ⟨some d, op, ty, pos, after, none⟩ p) (hd : Nat.ble (d + 1) n = true) (h : DrawTo P n m all ((d, p) :: env) σ os K) :
    DrawTo P n m all env σ (⟨some d, op, ty, pos, after, none⟩ :: os) K := by
  obtain ⟨ps, h1, h2⟩ := h
  exact ⟨p :: ps, ⟨d, rfl, hd, .free rfl hl, h1⟩, h2⟩
theorem draw_lkg {j t : Nat} {want b : Bool} (hj : (all[j]?).bind (·.dst) = some t) (hb : look (restr env (readsOf all ⟨some d, op, ty, pos, after, some (j, want)⟩)) t = .bool b) (hw : b = want)
    (hl : LookAt P n m (restr env (readsOf all ⟨some d, op, ty, pos, after, some (j, want)⟩)) σ ⟨some d, op, ty, pos, after, some (j, want)⟩ p) (hd : Nat.ble (d + 1) n = true) (h : DrawTo P n m all ((d, p) :: env) σ os K) :
    DrawTo P n m all env σ (⟨some d, op, ty, pos, after, some (j, want)⟩ :: os) K := by
  obtain ⟨ps, h1, h2⟩ := h
  exact ⟨p :: ps, ⟨d, rfl, hd, .yes rfl hj hb hw hl, h1⟩, h2⟩
theorem draw_no {j t : Nat} {want b : Bool} (hj : (all[j]?).bind (·.dst) = some t) (hb : look (restr env (readsOf all ⟨some d, op, ty, pos, after, some (j, want)⟩)) t = .bool b) (hw : b = !want)
    (hd : Nat.ble (d + 1) n = true) (h : DrawTo P n m all ((d, .dead) :: env) σ os K) :
    DrawTo P n m all env σ (⟨some d, op, ty, pos, after, some (j, want)⟩ :: os) K := by
  obtain ⟨ps, h1, h2⟩ := h
  exact ⟨.dead :: ps, ⟨d, rfl, hd, .no rfl hj hb hw, h1⟩, h2⟩
theorem draw_split {t : Nat} {b : Bool} {ops : List Oper} (hb : look env t = .bool b) (h1 : b = true → DrawTo P n m all env σ ops K) (h0 : b = false → DrawTo P n m all env σ ops K) : DrawTo P n m all env σ ops K := by
  cases b
  · exact h0 rfl
  · exact h1 rfl
theorem draw_gsplit {j t : Nat} {want b : Bool} (hj : (all[j]?).bind (·.dst) = some t) (hb : look env t = .bool b)
    (h1 : b = true → DrawTo P n m all env σ (⟨some d, op, ty, pos, after, some (j, want)⟩ :: os) K) (h0 : b = false → DrawTo P n m all env σ (⟨some d, op, ty, pos, after, some (j, want)⟩ :: os) K) :
    DrawTo P n m all env σ (⟨some d, op, ty, pos, after, some (j, want)⟩ :: os) K := draw_split hb h1 h0

theorem sat_drawR {id : Nat} {ops : List Oper} (hm : P.follows .mixedOrders = true) (hok : drawOK ops = true) (h : DrawTo P n m ops.toArray env σ ops fun env' => Q .normal env' σ) : Sat P l n m (.region id ops.toArray true) env σ Q := by
  obtain ⟨ps, h1, h2⟩ := h
  exact sat_draw ps hm hok h1 h2
end
end Go.Proofs.Ytflgoabdgibphaa.Pv
