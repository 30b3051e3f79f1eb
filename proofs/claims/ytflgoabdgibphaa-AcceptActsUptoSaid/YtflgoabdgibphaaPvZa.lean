/- Iterators by what they yield. -/
import Derived.Test.YtflgoabdgibphaaPvZ
namespace Go.Proofs.Ytflgoabdgibphaa.Pv
open Go
set_option linter.unusedVariables false
set_option linter.unusedSimpArgs false

/-- An iterator: called with a yield that goes on, it yields these, one behind the other. -/
def SatSeq (P : Program) (g : FuncId) (caps : List PV) (σ : Sto) {α : Type} (enc : α → PV) (xs : List α) : Prop :=
  ∀ (i : Nat) (J : List α → Sto → Prop) (Jx : Sto → Prop) (s0 : Sto), (∀ k s, J k s → ∀ (j : Nat) e, σ[j]? = some e → s[j]? = some e) →
    (∀ pre v suf s, xs = pre ++ v :: suf → J pre s → SatYield P i [enc v] s fun b s' => (b = true ∧ J (pre ++ [v]) s') ∨ (b = false ∧ Jx s')) →
    J [] s0 → SatCall P g (.yld i :: caps) s0 fun _ s' => J xs s' ∨ Jx s'

theorem Wk.eq {p q : PV} (h : p = q) : Wk p q := by rw [h]; exact Wk.same _

/-- What a round may still see of the slots. -/
def SubL : Env → Env → Prop
  | [], _ => True
  | (t, p) :: r, env => (look env t = p ∧ p.isS = true) ∧ SubL r env
theorem SubL.at : ∀ {e env : Env}, SubL e env → ∀ t, look e t = .dead ∨ (look e t = look env t ∧ (look env t).isS = true)
  | [], _, _, t => .inl rfl
  | (u, p) :: r, env, h, t => by
    rw [look_cons]
    split
    · rename_i e; subst e; rw [h.1.1]; exact .inr ⟨rfl, h.1.2⟩
    · exact SubL.at h.2 t

/-- Several operands' values. -/
structure Opvs (tt : TT) (env : Env) (xs : List Operand) (ps : List PV) : Prop where
  e : ps = xs.map (opv tt env 0)
theorem opvs_nil {tt : TT} {env : Env} : Opvs tt env [] [] := ⟨rfl⟩
theorem opvs_cons {tt : TT} {env : Env} {x : Operand} {p : PV} {xs : List Operand} {ps : List PV} (h : opv tt env 0 x = p) (r : Opvs tt env xs ps) : Opvs tt env (x :: xs) (p :: ps) := ⟨by rw [r.e, ← h]; rfl⟩

section
variable {P : Program} {l : Option Nat} {tt : TT} {n m : Nat} {all : Array Oper} {rest : List Oper} {env : Env} {σ : Sto} {Q : Post} {d : Nat} {ty : TypeId} {pos : String} {after : Array Edge}

theorem parts_of {parts : List (Nat × Operand)} (k : Nat) (h : parts.map (·.1) = List.range' k parts.length) : parts = ((parts.map (·.2)).zipIdx k).map fun x => (x.2, x.1) := by
  induction parts generalizing k with
  | nil => rfl
  | cons p r ih =>
    simp only [List.map_cons, List.length_cons, List.range'_succ, List.cons.injEq] at h
    simp only [List.map_cons, List.zipIdx_cons]
    rw [← ih (k + 1) h.2, ← h.1]

theorem op_buildSliceX (o : Own) (ht : TabOK P tt) {t : TypeId} {len : Nat} {parts : Array (Nat × Operand)} {e : TI} {es : List PV} (he : eti tt t = some e) (hx : Opvs tt env (parts.toList.map (·.2)) es) (hpl : es.all PV.pl = true)
    (hsz : es.all (fun p => Nat.beq p.cells.length e.size) = true) (hbig : Nat.ble (es.length * e.size) 16777216 = true) (hlen : len = parts.toList.length) (hparts : parts.toList.map (·.1) = List.range' 0 parts.toList.length)
    (hd : Nat.ble (d + 1) n = true) (h : SatOps P l n m all rest ((d, .sl o e.size es) :: env) σ Q) : SatOps P l n m all (⟨some d, .buildSlice t len parts, ty, pos, after, none⟩ :: rest) env σ Q := by
  refine op_buildSlice o ht (eT := 0) he hx.e hpl hsz (Nat.le_of_ble_eq_true hbig) ?_ ?_ (ltn hd) h
  · rw [hx.e, List.length_map, List.length_map]; exact hlen
  · have := parts_of 0 hparts
    rw [← this]

/-- An operation that was passed over: its slot holds nothing, and what hangs on it is passed over, too. -/
theorem ops_guard_f' {op : Op} {j t : Nat} {want b : Bool} (hj : (all[j]?).bind (·.dst) = some t) (hb : look env t = .bool b) (hw : b = !want) (hd : d < n)
    (h : SatOps P l n m all rest ((d, .tup []) :: env) σ Q) : SatOps P l n m all (⟨some d, op, ty, pos, after, some (j, want)⟩ :: rest) env σ Q := by
  refine ⟨fun F G a w hs => ?_⟩
  simp only [wpListIn]
  rw [if_neg (by simp [Region.wanted, yielded_of hs hj hb, hw])]
  exact ⟨fun _ _ => trivial, h.go F G _ w (hs.setN hd (.inr (.inr ⟨#[], [], rfl, rfl, rfl, fun j v c h => by simp at h⟩)) trivial)⟩

theorem rep_tup {G : Gh} {w : World} {v : Value} {ps : List PV} (h : Rep G w v (.tup ps)) : ∃ vs, v = .tuple vs := by
  cases h with
  | one h => cases h with | sh h => exact h.notup.elim
  | tup vs ps hl h => exact ⟨vs, rfl⟩

theorem ops_guard_u {op : Op} {j t : Nat} {want : Bool} (hj : (all[j]?).bind (·.dst) = some t) (hb : look env t = .tup []) (hd : d < n)
    (h : SatOps P l n m all rest ((d, .tup []) :: env) σ Q) : SatOps P l n m all (⟨some d, op, ty, pos, after, some (j, want)⟩ :: rest) env σ Q := by
  refine ⟨fun F G a w hs => ?_⟩
  have hy : yielded all a.tmps j = none := by
    have hr := hs.rep t
    rw [hb] at hr
    unfold yielded
    rw [hj]
    simp only [Option.bind_some]
    by_cases ht : t < a.tmps.size
    · have e : a.tmps.getD t undef = a.tmps[t] := by simp [ht]
      rw [e] at hr
      obtain ⟨vs, hv⟩ := rep_tup hr
      simp [ht, hv]
    · simp [Array.getElem?_eq_none (Nat.le_of_not_lt ht)]
  simp only [wpListIn]
  rw [if_neg (by simp [Region.wanted, hy])]
  exact ⟨fun _ _ => trivial, h.go F G _ w (hs.setN hd (.inr (.inr ⟨#[], [], rfl, rfl, rfl, fun j v c h => by simp at h⟩)) trivial)⟩

/-- An element of a row of like elements, where the order is drawn. -/
theorem lk_indexMap {dd : Option Nat} {g : Option (Nat × Bool)} {α : Type} [Inhabited α] (f : α → PV) (ht : TabOK P tt) {t tI : TypeId} {x i : Operand} {k : IntKind} {z : Int} {sz : Nat} {xs : List α} {e : TI} (he : eti tt t = some e) (hx : opv tt env t x = .sl .sh sz (xs.map f))
    (hi : opv tt env tI i = .int k z) (hsz : sz = e.size) (h0 : 0 ≤ z) (h1 : z < xs.length) {cs : List PV} (hcs : (f (xs.getD z.toNat default)).cells = cs) : LookAt P n m env σ ⟨dd, .indexAddr t x i, ty, pos, after, g⟩ (.cref cs) := by
  refine LookAt.norm (LookAt.of (fun F G a w hs => look_indexAddr (tI := tI) ht hs) (c := sz = e.size ∧ 0 ≤ z ∧ z < ((xs.map f).length : Int)) ?_ ⟨hsz, h0, by simpa using h1⟩)
  rw [hx, hi]
  simp only [indexAddrP, he]
  have hlt : z.toNat < xs.length := by omega
  have : (xs.map f).getD z.toNat .dead = f (xs.getD z.toNat default) := by simp [List.getD, hlt]
  rw [this, hcs]

/-- Is it an address of an element? (Told quickly.) -/
theorem lkix_guard {dd : Option Nat} {g : Option (Nat × Bool)} {t : TypeId} {x i : Operand} {p : PV} (h : LookAt P n m env σ ⟨dd, .indexAddr t x i, ty, pos, after, g⟩ p) : LookAt P n m env σ ⟨dd, .indexAddr t x i, ty, pos, after, g⟩ p := h

theorem op_appendX (ht : TabOK P tt) {tb : Nat} {xo : Operand} {tS tX : TypeId} {o : Own} {sz : Nat} {es ys : List PV} {e : TI} (hb : look env tb = .sl o sz es) (ho : (PV.sl o sz es).isOwn = true) (he : eti tt tS = some e) (hez : e.size = sz)
    {i : TI} {eX : Nat} (hX : tl tt tX = some i) (hXi : i.desc = .slice eX) (hx : opv tt env tX xo = .sl .sh sz ys) (hB : Nat.ble e.bytes 4095 = true)
    (hfit : es.length + ys.length ≤ 34359738368) (hone : (flat ys).all PV.one = true) (hd : Nat.ble (d + 1) n = true)
    (h : SatOps P l n m all rest ((d, .sl o sz (es ++ ys)) :: (tb, left1 (.sl o sz es)) :: env) σ Q) :
    SatOps P l n m all (⟨some d, .call ⟨.builtin .append, #[.tmp tb, xo], #[tS, tX]⟩, ty, pos, after, none⟩ :: rest) env σ Q :=
  op_append ht hb ho he hez hX hXi hx (by
    have h1 := Nat.le_of_ble_eq_true hB
    exact Nat.le_trans (Nat.mul_le_mul hfit (Nat.succ_le_succ h1)) (by decide)) hone (ltn hd) h
end

end Go.Proofs.Ytflgoabdgibphaa.Pv
