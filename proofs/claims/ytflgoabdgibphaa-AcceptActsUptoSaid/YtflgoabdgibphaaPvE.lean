/- The operations that only look, one by one. -/
import Derived.Test.YtflgoabdgibphaaPvD
namespace Go.Proofs.Ytflgoabdgibphaa.Pv
open Go
set_option linter.unusedVariables false
set_option linter.unusedSimpArgs false

/-- Is a number one of its kind? -/
def InR : IntKind → Int → Prop
  | .i8, z => -128 ≤ z ∧ z ≤ 127
  | .i16, z => -32768 ≤ z ∧ z ≤ 32767
  | .i32, z => -2147483648 ≤ z ∧ z ≤ 2147483647
  | .i64, z => -9223372036854775808 ≤ z ∧ z ≤ 9223372036854775807
  | .u8, z => 0 ≤ z ∧ z ≤ 255
  | .u16, z => 0 ≤ z ∧ z ≤ 65535
  | .u32, z => 0 ≤ z ∧ z ≤ 4294967295
  | .u64, z => 0 ≤ z ∧ z ≤ 18446744073709551615

theorem wrap_in {k : IntKind} {z : Int} (h : InR k z) : k.wrap z = z := by
  cases k <;> simp only [InR] at h <;> simp [IntKind.wrap, IntKind.bits, IntKind.signed] <;> omega

def beqS (x y : ByteArray) : Bool := x.data.toList == y.data.toList
theorem beqS_iff {x y : ByteArray} : beqS x y = true ↔ x = y := by
  constructor
  · intro h
    have h1 : x.data.toList = y.data.toList := by simpa [beqS] using h
    cases x; cases y; simp only at h1; congr; exact Array.toList_inj.1 h1
  · rintro rfl; simp [beqS]
def ltS (x y : ByteArray) : Bool := Op.bytesLess x.data.toList y.data.toList

/-- Numbers: what an operator makes of two, and what it asks. -/
def binI (ex : Bool) (op : BinOp) (k : IntKind) (x y : Int) : Option (Prop × PV) :=
  let wr (z : Int) : Option (Prop × PV) := match ex with | true => some (InR k z, .int k z) | false => some (True, .int k (k.wrap z))
  match op with
  | .add => wr (x + y)
  | .sub => wr (x - y)
  | .mul => wr (x * y)
  | .quo => match ex with | true => some (y ≠ 0 ∧ InR k (x.tdiv y), .int k (x.tdiv y)) | false => some (y ≠ 0, .int k (k.wrap (x.tdiv y)))
  | .rem => some (y ≠ 0, .int k (x.tmod y))
  | .and => some (True, .int k (k.wrap (BitVec.ofInt k.bits x &&& BitVec.ofInt k.bits y).toNat))
  | .or => some (True, .int k (k.wrap (BitVec.ofInt k.bits x ||| BitVec.ofInt k.bits y).toNat))
  | .xor => some (True, .int k (k.wrap (BitVec.ofInt k.bits x ^^^ BitVec.ofInt k.bits y).toNat))
  | .andNot => some (True, .int k (k.wrap (BitVec.ofInt k.bits x &&& ~~~(BitVec.ofInt k.bits y)).toNat))
  | .eql => some (True, .bool (x == y))
  | .neq => some (True, .bool (x != y))
  | .lss => some (True, .bool (decide (x < y)))
  | .leq => some (True, .bool (decide (x ≤ y)))
  | .gtr => some (True, .bool (decide (y < x)))
  | .geq => some (True, .bool (decide (y ≤ x)))
  | _ => none

/-- A shift by so many. -/
def shI (ex : Bool) (op : BinOp) (k : IntKind) (x y : Int) : Option (Prop × PV) :=
  match op with
  | .shl => match ex with | true => some (0 ≤ y ∧ InR k (x * 2 ^ (min y.toNat k.bits)), .int k (x * 2 ^ (min y.toNat k.bits))) | false => some (0 ≤ y, .int k (k.wrap (x * 2 ^ (min y.toNat k.bits))))
  | .shr => some (0 ≤ y, .int k (x.fdiv (2 ^ (min y.toNat k.bits))))
  | _ => none

def binS (op : BinOp) (x y : ByteArray) : Option (Prop × PV) :=
  match op with
  | .add => some (x.size + y.size ≤ 9223372036854775807, .str (x ++ y))
  | .eql => some (True, .bool (beqS x y))
  | .neq => some (True, .bool (!beqS x y))
  | .lss => some (True, .bool (ltS x y))
  | .leq => some (True, .bool (ltS x y || beqS x y))
  | .gtr => some (True, .bool (!(ltS x y || beqS x y)))
  | .geq => some (True, .bool (!ltS x y))
  | _ => none

def binOpP (ex : Bool) (tt : TT) (op : BinOp) (xT : TypeId) : PV → PV → Option (Prop × PV)
  | .int k x, .int k' y => match op with
    | .shl | .shr => shI ex op k x y
    | _ => match decide (k = k') with | true => binI ex op k x y | false => none
  | .str x, .str y => binS op x y
  | .bool x, .bool y => match op, tl tt xT with
    | .eql, some ⟨.bool, _, _, _⟩ => some (True, .bool (x == y))
    | .neq, some ⟨.bool, _, _, _⟩ => some (True, .bool (x != y))
    | _, _ => none
  | _, _ => none

theorem run_binI {P : Program} {w : World} {ex : Bool} {op : BinOp} {k : IntKind} {x y : Int} {c : Prop} {p : PV} (h : binI ex op k x y = some (c, p)) (hc : c) (xT : TypeId) :
    ∃ v, (binOp op xT (.int k x) (.int k y)).run P w = .ok v w ∧ (∀ G : Gh, RepS G w v p) := by
  cases op <;> simp only [binI] at h
  case add => cases ex <;> cases h; · exact ⟨.int k (k.wrap (x + y)), by simp [binOp, Op.intArith], fun G => .pl (.int _ _)⟩
              · exact ⟨.int k (x + y), by simp [binOp, Op.intArith, wrap_in hc], fun G => .pl (.int _ _)⟩
  case sub => cases ex <;> cases h; · exact ⟨.int k (k.wrap (x - y)), by simp [binOp, Op.intArith], fun G => .pl (.int _ _)⟩
              · exact ⟨.int k (x - y), by simp [binOp, Op.intArith, wrap_in hc], fun G => .pl (.int _ _)⟩
  case mul => cases ex <;> cases h; · exact ⟨.int k (k.wrap (x * y)), by simp [binOp, Op.intArith], fun G => .pl (.int _ _)⟩
              · exact ⟨.int k (x * y), by simp [binOp, Op.intArith, wrap_in hc], fun G => .pl (.int _ _)⟩
  case quo => cases ex <;> cases h; · exact ⟨.int k (k.wrap (x.tdiv y)), by simp [binOp, Op.intDiv, hc], fun G => .pl (.int _ _)⟩
              · exact ⟨.int k (x.tdiv y), by simp [binOp, Op.intDiv, hc.1, wrap_in hc.2], fun G => .pl (.int _ _)⟩
  case rem => cases h; exact ⟨.int k (x.tmod y), by simp [binOp, Op.intDiv, show y ≠ 0 from hc], fun G => .pl (.int _ _)⟩
  case and => cases h; exact ⟨_, by simp only [binOp, ne_eq, not_true_eq_false, if_false, Op.intBits]; rfl, fun G => .pl (.int _ _)⟩
  case or => cases h; exact ⟨_, by simp only [binOp, ne_eq, not_true_eq_false, if_false, Op.intBits]; rfl, fun G => .pl (.int _ _)⟩
  case xor => cases h; exact ⟨_, by simp only [binOp, ne_eq, not_true_eq_false, if_false, Op.intBits]; rfl, fun G => .pl (.int _ _)⟩
  case andNot => cases h; exact ⟨_, by simp only [binOp, ne_eq, not_true_eq_false, if_false, Op.intBits]; rfl, fun G => .pl (.int _ _)⟩
  case eql => cases h; exact ⟨_, by simp only [binOp, ne_eq, not_true_eq_false, if_false, Op.intCmp]; rfl, fun G => .pl (.bool _)⟩
  case neq => cases h; exact ⟨_, by simp only [binOp, ne_eq, not_true_eq_false, if_false, Op.intCmp]; rfl, fun G => .pl (.bool _)⟩
  case lss => cases h; exact ⟨_, by simp only [binOp, ne_eq, not_true_eq_false, if_false, Op.intCmp]; rfl, fun G => .pl (.bool _)⟩
  case leq => cases h; exact ⟨_, by simp only [binOp, ne_eq, not_true_eq_false, if_false, Op.intCmp]; rfl, fun G => .pl (.bool _)⟩
  case gtr => cases h; exact ⟨_, by simp only [binOp, ne_eq, not_true_eq_false, if_false, Op.intCmp]; rfl, fun G => .pl (.bool _)⟩
  case geq => cases h; exact ⟨_, by simp only [binOp, ne_eq, not_true_eq_false, if_false, Op.intCmp]; rfl, fun G => .pl (.bool _)⟩
  case shl => cases h
  case shr => cases h

theorem run_shI {P : Program} {w : World} {ex : Bool} {op : BinOp} {k k' : IntKind} {x y : Int} {c : Prop} {p : PV} (h : shI ex op k x y = some (c, p)) (hc : c) (xT : TypeId) :
    ∃ v, (binOp op xT (.int k x) (.int k' y)).run P w = .ok v w ∧ (∀ G : Gh, RepS G w v p) := by
  cases op <;> simp only [shI] at h <;> first | (cases h; done) | skip
  case shl =>
    cases ex <;> cases h
    · exact ⟨_, by simp only [binOp, Op.shift]; rw [if_neg (by omega)]; rfl, fun G => .pl (.int _ _)⟩
    · exact ⟨.int k (x * 2 ^ min y.toNat k.bits), by simp only [binOp, Op.shift]; rw [if_neg (by omega)]; simp [wrap_in hc.2], fun G => .pl (.int _ _)⟩
  case shr =>
    cases h
    exact ⟨_, by simp only [binOp, Op.shift]; rw [if_neg (by omega)]; rfl, fun G => .pl (.int _ _)⟩

theorem run_binS {P : Program} {w : World} {op : BinOp} {x y : ByteArray} {c : Prop} {p : PV} (h : binS op x y = some (c, p)) (hc : c) (xT : TypeId) :
    ∃ v, (binOp op xT (.string x) (.string y)).run P w = .ok v w ∧ (∀ G : Gh, RepS G w v p) := by
  cases op <;> simp only [binS] at h <;> first | (cases h; done) | skip
  case add =>
    cases h
    exact ⟨.string (x ++ y), by
        simp only [binOp, Op.stringOp]
        rw [if_neg (by simp only [IntKind.max, IntKind.signed, IntKind.bits, if_true]; omega)]
        simp, fun G => .pl (.str _)⟩
  all_goals (cases h; exact ⟨_, by simp only [binOp, Op.stringOp, ByteArray.toList_eq]; rfl, fun G => .pl (.bool _)⟩)

theorem binI_lt {ex : Bool} {op : BinOp} {k : IntKind} {x y : Int} {c : Prop} {p : PV} (h : binI ex op k x y = some (c, p)) (n : Nat) : p.lt n := by
  cases op <;> simp only [binI] at h <;> first | (cases h; done) | (cases h; trivial) | (cases ex <;> (cases h; trivial))
theorem shI_lt {ex : Bool} {op : BinOp} {k : IntKind} {x y : Int} {c : Prop} {p : PV} (h : shI ex op k x y = some (c, p)) (n : Nat) : p.lt n := by
  cases op <;> simp only [shI] at h <;> first | (cases h; trivial) | (cases ex <;> (cases h; trivial)) | cases h
theorem binS_lt {op : BinOp} {x y : ByteArray} {c : Prop} {p : PV} (h : binS op x y = some (c, p)) (n : Nat) : p.lt n := by
  cases op <;> simp only [binS] at h <;> first | (cases h; trivial) | cases h

theorem eqGuard_plain {P : Program} {w : World} {op : BinOp} {t : TypeId} {x y : Operand} {a b : Value} (h : ∀ cs, a ≠ .agg cs) (h' : a ≠ .nilIface) : (eqGuard op t x y a b).run P w = .ok () w := by
  unfold eqGuard
  cases op <;> first | rfl | (cases a <;> first | rfl | exact absurd rfl (h _) | exact absurd rfl h')

theorem equalIn_bool {P : Program} {w : World} {t : TypeId} (hu : (underlying t).run P w = .ok .bool w) (d : Nat) (x y : Bool) : (Op.equalIn (d + 1) t (.bool x) (.bool y)).run P w = .ok (x == y) w := by
  simp [Op.equalIn, hu]

theorem look_binOp {P : Program} {tt : TT} (ht : TabOK P tt) (ex : Bool) {n m : Nat} {F : Nat → Prop} {G : Gh} {env : Env} {σ : Sto} {a : Act} {w : World} (h : Sim n m F G env σ a w)
    {d : Option Nat} {op : BinOp} {xT yT ty : TypeId} {x y : Operand} {pos : String} {after : Array Edge} :
    Looks P G σ w (execOp a.eval ⟨d, .binOp op xT x y yT, ty, pos, after, none⟩) (binOpP ex tt op xT (opv tt env xT x) (opv tt env yT y)) := by
  intro c p hr hc
  have hx := opv_ok h tt xT x
  have hy := opv_ok h tt yT y
  generalize opv tt env xT x = px at *
  generalize opv tt env yT y = py at *
  have fin : ∀ v : Value, (∀ cs, a.eval x ≠ .agg cs) → a.eval x ≠ .nilIface → (binOp op xT (a.eval x) (a.eval y)).run P w = .ok v w →
      (execOp a.eval ⟨d, .binOp op xT x y yT, ty, pos, after, none⟩).run P w = .ok (.value v) w := by
    intro v h1 h2 h3
    simp [execOp, eqGuard_plain h1 h2, h3]
  unfold binOpP at hr
  split at hr
  · rename_i k x' k' y'
    have ex' := (hx.toS rfl).int
    have ey' := (hy.toS rfl).int
    split at hr
    · obtain ⟨v, h1, h2⟩ := run_shI (P := P) (w := w) (k' := k') hr hc xT
      exact ⟨v, fin v (by simp [ex']) (by simp [ex']) (by rw [ex', ey']; exact h1), .inr (.inl (h2 G)), shI_lt hr _⟩
    · obtain ⟨v, h1, h2⟩ := run_shI (P := P) (w := w) (k' := k') hr hc xT
      exact ⟨v, fin v (by simp [ex']) (by simp [ex']) (by rw [ex', ey']; exact h1), .inr (.inl (h2 G)), shI_lt hr _⟩
    · split at hr
      · rename_i hk
        have hk : k = k' := by simpa using hk
        subst hk
        obtain ⟨v, h1, h2⟩ := run_binI (P := P) (w := w) hr hc xT
        exact ⟨v, fin v (by simp [ex']) (by simp [ex']) (by rw [ex', ey']; exact h1), .inr (.inl (h2 G)), binI_lt hr _⟩
      · cases hr
  · rename_i x' y'
    have ex' := (hx.toS rfl).str
    have ey' := (hy.toS rfl).str
    obtain ⟨v, h1, h2⟩ := run_binS (P := P) (w := w) hr hc xT
    exact ⟨v, fin v (by simp [ex']) (by simp [ex']) (by rw [ex', ey']; exact h1), .inr (.inl (h2 G)), binS_lt hr _⟩
  · rename_i x' y'
    have ex' := (hx.toS rfl).bool
    have ey' := (hy.toS rfl).bool
    split at hr
    · rename_i hi
      have hu := (ht _ _ hi).rund w
      cases hr
      refine ⟨.bool (x' == y'), fin _ (by simp [ex']) (by simp [ex']) ?_, .inr (.inl (.pl (.bool _))), trivial⟩
      rw [ex', ey']
      have := equalIn_bool (P := P) (w := w) hu 9999 x' y'
      simp only [binOp, Op.equal, Op.maxDepth, Sem.run_bind, this, Result.andThen_ok, Sem.run_pure]
    · rename_i hi
      have hu := (ht _ _ hi).rund w
      cases hr
      refine ⟨.bool (x' != y'), fin _ (by simp [ex']) (by simp [ex']) ?_, .inr (.inl (.pl (.bool _))), trivial⟩
      rw [ex', ey']
      have := equalIn_bool (P := P) (w := w) hu 9999 x' y'
      simp only [binOp, Op.equal, Op.maxDepth, Sem.run_bind, this, Result.andThen_ok, Sem.run_pure, bne]
    · cases hr
  · cases hr

end Go.Proofs.Ytflgoabdgibphaa.Pv
