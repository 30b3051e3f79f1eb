/- Operations that only look: their plain values, and that the machine's run gives one that stands for it. -/
import Derived.Test.YtflgoabdgibphaaPvC
import Derived.Laws.Strings
namespace Go.Proofs.Ytflgoabdgibphaa.Pv
open Go
set_option linter.unusedVariables false
set_option linter.unusedSimpArgs false

/-- What is known of a type: its shape, how many cells and bytes, its zero cells. -/
structure TI where
  desc : TypeDesc
  size : Nat
  bytes : Nat
  zero : List PV

abbrev TT := List (Nat × TI)
def tl : TT → Nat → Option TI
  | [], _ => none
  | (k, v) :: r, t => bif Nat.beq k t then some v else tl r t

def zc1 : Value → PV → Bool
  | .bool false, .bool false => true
  | .int k n, .int k' n' => k == k' && n == n'
  | .string s, .str s' => s.size == 0 && s'.size == 0
  | .slice none 0 0, .sl .sh _ [] => true
  | .slice none 0 0, .nils _ => true
  | .pointer none, .nilptr => true
  | .nilFunc, .nilfn => true
  | .nilIface, .nilif => true
  | _, .dead => true
  | _, _ => false

def zcs : List Value → List PV → Bool
  | [], [] => true
  | v :: r, p :: q => zc1 v p && zcs r q
  | _, _ => false

structure TyOK (P : Program) (t : Nat) (i : TI) : Prop where
  und : P.underlying t = some i.desc
  zl : i.zero.length = i.size
  inf : ∃ info z, P.info? t = some info ∧ info.size = i.size ∧ info.bytes = i.bytes ∧ info.zero = some z ∧ zcs z.cells.toList i.zero = true

def TabOK (P : Program) (tt : TT) : Prop := ∀ t i, tl tt t = some i → TyOK P t i

theorem TabOK.nil (P : Program) : TabOK P [] := fun _ _ h => by cases h
theorem TabOK.cons {P : Program} {t : Nat} {i : TI} {tt : TT} (h : TyOK P t i) (r : TabOK P tt) : TabOK P ((t, i) :: tt) := by
  intro t' i' h'
  simp only [tl] at h'
  cases hb : Nat.beq t t' with
  | true => rw [hb] at h'; cases h'; rw [← Nat.eq_of_beq_eq_true hb]; exact h
  | false => rw [hb] at h'; exact r t' i' h'

theorem TyOK.mk' {P : Program} {t : Nat} {d : TypeDesc} {z : Value} {sz by_ : Nat} {zs : List PV} (hu : P.underlying t = some d)
    (hi : (P.info? t).map (fun i => (i.zero, i.size, i.bytes)) = some (some z, sz, by_)) (hz : zcs z.cells.toList zs = true) (hl : zs.length = sz) : TyOK P t ⟨d, sz, by_, zs⟩ := by
  refine ⟨hu, hl, ?_⟩
  cases h : P.info? t with
  | none => rw [h] at hi; cases hi
  | some i => rw [h] at hi; simp only [Option.map_some, Option.some.injEq, Prod.mk.injEq] at hi; exact ⟨i, z, rfl, hi.2.1, hi.2.2, hi.1, hz⟩

section runs
variable {P : Program} {w : World} {t : Nat} {i : TI}
theorem TyOK.rund (h : TyOK P t i) (w : World) : (underlying t).run P w = .ok i.desc w := by simp [underlying, h.und]
theorem TyOK.rsize (h : TyOK P t i) (w : World) : (sizeOf t).run P w = .ok i.size w := by
  obtain ⟨info, z, h1, h2, _⟩ := h.inf
  simp [sizeOf, typeInfo, h1, h2]
theorem TyOK.rinfo (h : TyOK P t i) (w : World) : ∃ info, (typeInfo t).run P w = .ok info w ∧ info.size = i.size ∧ info.bytes = i.bytes := by
  obtain ⟨info, z, h1, h2, h3, _⟩ := h.inf
  exact ⟨info, by simp [typeInfo, h1], h2, h3⟩
theorem TyOK.rzero (h : TyOK P t i) (w : World) : ∃ z, (zeroValue t).run P w = .ok z w ∧ zcs z.cells.toList i.zero = true := by
  obtain ⟨info, z, h1, h2, h3, h4, h5⟩ := h.inf
  exact ⟨z, by simp [zeroValue, typeInfo, h1, h4], h5⟩
def aggD : TypeDesc → Bool
  | .struct _ | .array _ _ => true
  | _ => false
theorem TyOK.ragg (h : TyOK P t i) (w : World) : (isAgg t).run P w = .ok (aggD i.desc) w := by
  simp only [isAgg, Sem.run_bind, h.rund w, Result.andThen_ok]
  cases i.desc <;> rfl
end runs

/-- Shared readings, several at once, or nothing. -/
def RepN (G : Gh) (w : World) (v : Value) (p : PV) : Prop := p = .dead ∨ RepS G w v p ∨ ∃ vs ps, v = .tuple vs ∧ p = .tup ps ∧ vs.size = ps.length ∧ ∀ (j : Nat) v c, vs[j]? = some v → ps[j]? = some c → c = .dead ∨ RepS G w v c

theorem RepN.rep {G : Gh} {w : World} {v : Value} {p : PV} (h : RepN G w v p) : Rep G w v p := by
  rcases h with rfl | h | ⟨vs, ps, rfl, rfl, hl, h⟩
  · exact .one (.dead _)
  · exact .one (.sh h)
  · refine .tup vs ps hl fun j v c h1 h2 => ?_
    rcases h j v c h1 h2 with rfl | h
    · exact .dead _
    · exact .sh h

theorem ownB_dead (v : Value) : ownB v .dead = none := by cases v <;> first | rfl | (rename_i a _ _; cases a <;> rfl)

theorem RepN.own {G : Gh} {w : World} {v : Value} {p : PV} (h : RepN G w v p) (j : Nat) : ownSlot v p j = none := by
  rcases h with rfl | h | ⟨vs, ps, rfl, rfl, hl, h⟩
  · exact ownSlot_dead _ _
  · exact ownSlot_sh h j
  · simp only [ownSlot]
    split
    · rename_i v p hv hp
      rcases h j v p hv hp with rfl | h
      · exact ownB_dead _
      · exact ownB_sh h
    · rfl

theorem Sim.setN {n m : Nat} {F : Nat → Prop} {G : Gh} {env : Env} {σ : Sto} {a : Act} {w : World} (h : Sim n m F G env σ a w) {d : Nat} {v : Value} {p : PV} (hd : d < n) (hv : RepN G w v p) (hlt : p.lt σ.length) :
    Sim n m F G ((d, p) :: env) σ (a.put (some d) v) w :=
  h.set hd hv.rep hlt (fun j b hb => by rw [hv.own] at hb; cases hb) (fun j1 _ b hb => by rw [hv.own] at hb; cases hb)

/-- A holder's value, as one may share it. -/
def shr1 : PV → PV
  | .sl .ow sz es => .sl .sh sz es
  | .sl .ex _ _ => .dead
  | .tup _ => .dead
  | p => p
def shr : PV → PV
  | .tup ps => .tup (ps.map shr1)
  | p => shr1 p

theorem RepO.shr1 {G : Gh} {w : World} {v : Value} {p : PV} (h : RepO G w v p) : Pv.shr1 p = .dead ∨ RepS G w v (Pv.shr1 p) := by
  cases h with
  | dead => exact .inl rfl
  | sh h =>
    refine .inr ?_
    have : Pv.shr1 p = p := by
      cases h with
      | pl h => cases h <;> rfl
      | _ => rfl
    rw [this]; exact h
  | ow a cap sz es h _ => exact .inr (.pl h)
  | ex0 a sz => exact .inl rfl
  | ex => exact .inl rfl

theorem Rep.shr {G : Gh} {w : World} {v : Value} {p : PV} (h : Rep G w v p) : RepN G w v (Pv.shr p) := by
  cases h with
  | one h =>
    have h' := h.shr1
    have : Pv.shr p = Pv.shr1 p := by
      cases h with
      | sh h => cases h with
        | pl h => cases h <;> rfl
        | _ => rfl
      | _ => rfl
    rw [this]
    rcases h' with e | h'
    · exact .inl e
    · exact .inr (.inl h')
  | tup vs ps hl h =>
    refine .inr (.inr ⟨vs, ps.map Pv.shr1, rfl, rfl, by simpa using hl, fun j v c h1 h2 => ?_⟩)
    rw [List.getElem?_map, Option.map_eq_some_iff] at h2
    obtain ⟨c', h2, rfl⟩ := h2
    exact (h j v c' h1 h2).shr1

theorem shr1_lt {n : Nat} {p : PV} (h : p.lt n) : (shr1 p).lt n := by
  unfold shr1; split <;> first | trivial | exact h
theorem shr_lt {n : Nat} {p : PV} (h : p.lt n) : (shr p).lt n := by
  unfold shr
  split
  · simp only [PV.lt] at h ⊢
    rw [ltAll_iff] at h ⊢
    intro v hv
    obtain ⟨v', h1, rfl⟩ := List.mem_map.1 hv
    exact shr1_lt (h v' h1)
  · exact shr1_lt h

/-- The cells of a slice type's elements. -/
def eti (tt : TT) (t : Nat) : Option TI :=
  match tl tt t with
  | some ⟨.slice e, _, _, _⟩ => tl tt e
  | _ => none

def cst (tt : TT) (ty : Nat) : Value → PV
  | .bool b => .bool b
  | .int k n => .int k n
  | .string s => .str s
  | .nilFunc => .nilfn
  | .nilIface => .nilif
  | .pointer none => .nilptr
  | .slice none 0 0 => match eti tt ty with
    | some i => .sl .sh i.size []
    | none => .dead
  | _ => .dead

def opv (tt : TT) (env : Env) (ty : Nat) : Operand → PV
  | .tmp t => shr (look env t)
  | .const v => cst tt ty v
  | .func f => .fn (.func f) [] []
  | .global _ => .dead

section
variable {n m : Nat} {F : Nat → Prop} {G : Gh} {env : Env} {σ : Sto} {a : Act} {w : World}

theorem cst_ok (tt : TT) (ty : Nat) (v : Value) : RepN G w v (cst tt ty v) := by
  unfold cst
  split
  · exact .inr (.inl (.pl (.bool _)))
  · exact .inr (.inl (.pl (.int _ _)))
  · exact .inr (.inl (.pl (.str _)))
  · exact .inr (.inl (.pl .nilfn))
  · exact .inr (.inl (.pl .nilif))
  · exact .inr (.inl (.pl .nilptr))
  · split
    · exact .inr (.inl (.pl (.sl0 _ _ _)))
    · exact .inl rfl
  · exact .inl rfl

theorem opv_ok (h : Sim n m F G env σ a w) (tt : TT) (ty : Nat) (x : Operand) : RepN G w (a.eval x) (opv tt env ty x) := by
  cases x with
  | tmp t => exact (h.rep t).shr
  | const v => exact cst_ok tt ty v
  | global g => exact .inl rfl
  | func f => exact .inr (.inl (.fn (.func f) #[] #[] [] [] rfl rfl (fun j v c h1 _ => by simp at h1) (fun j v c h1 _ => by simp at h1)))

theorem cst_lt (tt : TT) (ty : Nat) (v : Value) (k : Nat) : (cst tt ty v).lt k := by
  unfold cst
  split <;> first | trivial | (split <;> trivial)

theorem opv_lt (h : Sim n m F G env σ a w) (tt : TT) (ty : Nat) (x : Operand) : (opv tt env ty x).lt σ.length := by
  cases x with
  | tmp t => exact shr_lt (h.envlt t)
  | const v => exact cst_lt tt ty v _
  | global g => trivial
  | func f => exact ⟨trivial, trivial⟩

theorem RepN.toS {v : Value} {p : PV} (h : RepN G w v p) (hp : p.isS = true) : RepS G w v p := by
  rcases h with rfl | h | ⟨vs, ps, rfl, rfl, hl, h⟩
  · cases hp
  · exact h
  · cases hp
end

/-- What is owed to an operation that only looks. -/
def Looks (P : Program) (G : Gh) (σ : Sto) (w : World) (s : Sem Next) (r : Option (Prop × PV)) : Prop :=
  ∀ c p, r = some (c, p) → c → ∃ v, s.run P w = .ok (.value v) w ∧ RepN G w v p ∧ p.lt σ.length

theorem op_look {P : Program} {l : Option Nat} {n m : Nat} {all : Array Oper} {d : Nat} {op : Op} {ty : TypeId} {pos : String} {after : Array Edge} {rest : List Oper} {env : Env} {σ : Sto} {Q : Post} {r : Option (Prop × PV)} {c : Prop} {p : PV}
    (hd : d < n) (hnd : ∀ c, op ≠ .defer c) (hl : ∀ F G a w, Sim n m F G env σ a w → Looks P G σ w (execOp a.eval ⟨some d, op, ty, pos, after, none⟩) r)
    (hr : r = some (c, p)) (hc : c) (h : SatOps P l n m all rest ((d, p) :: env) σ Q) : SatOps P l n m all (⟨some d, op, ty, pos, after, none⟩ :: rest) env σ Q := by
  refine ⟨fun F G a w hs => ?_⟩
  obtain ⟨v, h1, h2, h3⟩ := hl F G a w hs c p hr hc
  refine list_run rfl (upon_value hnd h1 ?_)
  exact h.go F G _ w (hs.setN hd h2 h3)

end Go.Proofs.Ytflgoabdgibphaa.Pv
