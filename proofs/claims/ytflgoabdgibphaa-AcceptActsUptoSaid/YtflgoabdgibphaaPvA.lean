/- Plain values, and how a value in a world stands for one. No program in sight. -/
import Derived.RangeFuncRecord
import Derived.OrdersIn
import Derived.TacticsIn
import Derived.Laws.AppendOwn
import Derived.Laws.Rows
namespace Go.Proofs.Ytflgoabdgibphaa.Pv
open Go

inductive Own where
  | sh | ow | ex
  deriving DecidableEq

/-- A plain value. 'sl': a slice by its elements (each of sz cells); 'ptr', 'bsl', 'xsl' (its capacity is known): into a box of the store; 'cref': into memory that does not turn any more. -/
inductive PV where
  | dead
  | bool (b : Bool)
  | int (k : IntKind) (n : Int)
  | str (s : ByteArray)
  | sl (o : Own) (sz : Nat) (es : List PV)
  | agg (cs : List PV)
  | tup (vs : List PV)
  | ptr (i off : Nat)
  | cref (cs : List PV)
  | bsl (i off sz len cap : Nat)
  | fn (f : Fn) (first cap : List PV)
  | nilfn
  | nilif
  | yld (i : Nat)
  | nilptr
  | nils (sz : Nat)
  | bnil (i T k : Nat)
  | tptr (i T k : Nat)
  | xsl (i off sz len cap : Nat)

/-- What a box of the store has: cells; nothing any more; a loop over a function (its record's state, the jump that is pending, the record, and what its slots were). -/
inductive Ent where
  | cells (cs : List PV)
  | gone
  | loop (st : LoopState) (pend : Option Code) (rec : Loop) (env0 : List (Nat × PV))

abbrev Sto := List Ent
abbrev Env := List (Nat × PV)

def look : Env → Nat → PV
  | [], _ => .dead
  | (k, v) :: r, t => bif Nat.beq k t then v else look r t

def PV.cells : PV → List PV
  | .agg cs => cs
  | v => [v]

def flat : List PV → List PV
  | [] => []
  | e :: r => e.cells ++ flat r

mutual
/-- No place in it lies in a box from n on. -/
def PV.lt (n : Nat) : PV → Prop
  | .ptr i _ => i < n
  | .bsl i _ _ _ _ => i < n
  | .xsl i _ _ _ cap => cap = 0 ∨ i < n
  | .bnil i _ _ => i < n
  | .tptr i _ _ => i < n
  | .tup vs => ltAll n vs
  | .agg cs => ltAll n cs
  | .fn _ a b => ltAll n a ∧ ltAll n b
  | .yld i => i < n
  | _ => True
def ltAll (n : Nat) : List PV → Prop
  | [] => True
  | v :: r => v.lt n ∧ ltAll n r
end

theorem ltAll_iff {n : Nat} {l : List PV} : ltAll n l ↔ ∀ v ∈ l, v.lt n := by
  induction l with
  | nil => simp [ltAll]
  | cons v r ih => simp [ltAll, ih]

/-- What a block of the heap is: nobody's yet; cells of which the first p do not turn; somebody's own; a box of the store; kept as it is. -/
inductive Kind where
  | free
  | imm (p : Nat)
  | own
  | box (i : Nat)
  | keep

/-- Where a box lies, what its block is made of; may it have been made of a text? -/
structure Bx where
  b : Nat
  ty : Nat × Nat
  st : Bool
instance : CoeOut Bx Nat := ⟨Bx.b⟩

structure Gh where
  K : Nat → Kind
  bs : Nat → Bx

/-- Values that lie in memory which does not turn. -/
inductive RepP (K : Nat → Kind) (w : World) : Value → PV → Prop
  | bool (b : Bool) : RepP K w (.bool b) (.bool b)
  | int (k : IntKind) (n : Int) : RepP K w (.int k n) (.int k n)
  | str (s : ByteArray) : RepP K w (.string s) (.str s)
  | nilfn : RepP K w .nilFunc .nilfn
  | nilif : RepP K w .nilIface .nilif
  | nilptr : RepP K w (.pointer none) .nilptr
  | nils (sz : Nat) : RepP K w (.slice none 0 0) (.nils sz)
  | agg (vs : Array Value) (cs : List PV) (hl : vs.size = cs.length) (h : ∀ (j : Nat) v c, vs[j]? = some v → cs[j]? = some c → RepP K w v c) : RepP K w (.agg vs) (.agg cs)
  | sl0 (a : Option Addr) (cap sz : Nat) : RepP K w (.slice a 0 cap) (.sl .sh sz [])
  | sl (ad : Addr) (cap sz p : Nat) (es : List PV) (vs : Nat → Value) (hs : ad.spot = none) (hK : K ad.block = .imm p) (hp : ad.off + es.length * sz ≤ p) (hc : es.length ≤ cap)
      (hsz : ∀ e ∈ es, e.cells.length = sz) (hv : ∀ j, j < es.length * sz → w.cell? ⟨ad.block, ad.off + j, none⟩ = some (vs j))
      (hr : ∀ j c, (flat es)[j]? = some c → RepP K w (vs j) c) : RepP K w (.slice (some ad) es.length cap) (.sl .sh sz es)

/-- Values that may be shared: places, too. -/
inductive RepS (G : Gh) (w : World) : Value → PV → Prop
  | pl {v : Value} {p : PV} (h : RepP G.K w v p) : RepS G w v p
  | ptr (i off : Nat) : RepS G w (.pointer (some ⟨G.bs i, off, none⟩)) (.ptr i off)
  | yld (i : Nat) : RepS G w (.func (.yield (G.bs i)) #[] #[]) (.yld i)
  | bnil (i T k : Nat) (h : (G.bs i).ty = (T, k)) : RepS G w (.pointer none) (.bnil i T k)
  | tptr (i T k : Nat) (h : (G.bs i).ty = (T, k)) : RepS G w (.pointer (some ⟨G.bs i, 0, none⟩)) (.tptr i T k)
  | bsl (a : Option Addr) (i off sz len cap cap' : Nat) (h : len ≤ cap) (hc : cap ≤ cap') (ho : cap = 0 ∨ a = some ⟨G.bs i, off, none⟩) : RepS G w (.slice a len cap') (.bsl i off sz len cap)
  | xsl (a : Option Addr) (i off sz len cap : Nat) (h : len ≤ cap) (ho : cap = 0 ∨ (a = some ⟨G.bs i, off, none⟩ ∧ (G.bs i).st = false)) : RepS G w (.slice a len cap) (.xsl i off sz len cap)
  | cref (ad : Addr) (p : Nat) (cs : List PV) (vs : Nat → Value) (hs : ad.spot = none) (hK : G.K ad.block = .imm p) (hp : ad.off + cs.length ≤ p)
      (hv : ∀ j, j < cs.length → w.cell? ⟨ad.block, ad.off + j, none⟩ = some (vs j)) (hr : ∀ j c, cs[j]? = some c → RepP G.K w (vs j) c) : RepS G w (.pointer (some ad)) (.cref cs)
  | agg (vs : Array Value) (cs : List PV) (hl : vs.size = cs.length) (h : ∀ (j : Nat) v c, vs[j]? = some v → cs[j]? = some c → RepS G w v c) : RepS G w (.agg vs) (.agg cs)
  | fn (f : Fn) (xs ys : Array Value) (as bs : List PV) (hx : xs.size = as.length) (hy : ys.size = bs.length)
      (ha : ∀ (j : Nat) v c, xs[j]? = some v → as[j]? = some c → RepS G w v c) (hb : ∀ (j : Nat) v c, ys[j]? = some v → bs[j]? = some c → RepS G w v c) : RepS G w (.func f xs ys) (.fn f as bs)

/-- A row of cells of which some from off on may be written. -/
def Spare (w : World) (b lo hi : Nat) : Prop := ∃ arr T fz, w.heap[b]? = some (.cells arr T fz) ∧ hi ≤ arr.size ∧ ∀ j, lo ≤ j → j < hi → w.frozen? ⟨b, j, none⟩ = false

/-- What a holder may hold: shared values, and slices that are its own. -/
inductive RepO (G : Gh) (w : World) : Value → PV → Prop
  | dead (v : Value) : RepO G w v .dead
  | sh {v : Value} {p : PV} (h : RepS G w v p) : RepO G w v p
  | ow (a : Option Addr) (cap sz : Nat) (es : List PV) (h : RepP G.K w (.slice a es.length cap) (.sl .sh sz es))
      (ho : es.length < cap → ∃ ad, a = some ad ∧ ad.spot = none ∧ G.K ad.block = .imm (ad.off + es.length * sz) ∧ Spare w ad.block (ad.off + es.length * sz) (ad.off + cap * sz)) :
      RepO G w (.slice a es.length cap) (.sl .ow sz es)
  | ex0 (a : Option Addr) (sz : Nat) : RepO G w (.slice a 0 0) (.sl .ex sz [])
  | ex (b cap sz : Nat) (es : List PV) (vs : Nat → Value) (hK : G.K b = .own) (hc : es.length ≤ cap) (h0 : 0 < cap) (hsp : Spare w b 0 (cap * sz))
      (hsz : ∀ e ∈ es, e.cells.length = sz) (hv : ∀ j, j < es.length * sz → w.cell? ⟨b, j, none⟩ = some (vs j))
      (hr : ∀ j c, (flat es)[j]? = some c → RepP G.K w (vs j) c) : RepO G w (.slice (some ⟨b, 0, none⟩) es.length cap) (.sl .ex sz es)

/-- A slot's: one of these, or several at once (a call's results). -/
inductive Rep (G : Gh) (w : World) : Value → PV → Prop
  | one {v : Value} {p : PV} (h : RepO G w v p) : Rep G w v p
  | tup (vs : Array Value) (ps : List PV) (hl : vs.size = ps.length) (h : ∀ (j : Nat) v c, vs[j]? = some v → ps[j]? = some c → RepO G w v c) : Rep G w (.tuple vs) (.tup ps)

/-- The block that a holder has for itself. -/
def ownB : Value → PV → Option Nat
  | .slice (some ad) len cap, .sl .ow _ _ => if len < cap then some ad.block else none
  | .slice (some ad) _ cap, .sl .ex _ _ => if 0 < cap then some ad.block else none
  | _, _ => none

inductive Loc where
  | slot (t j : Nat)
  | cell (i j : Nat)
  deriving DecidableEq

def ownSlot (v : Value) (p : PV) (j : Nat) : Option Nat :=
  match p, v with
  | .tup ps, .tuple vs => (match vs[j]?, ps[j]? with | some v, some p => ownB v p | _, _ => none)
  | p, v => if j = 0 then ownB v p else none

def ownAt (G : Gh) (env : Env) (σ : Sto) (tmps : Array Value) (w : World) : Loc → Option Nat
  | .slot t j => ownSlot (tmps.getD t undef) (look env t) j
  | .cell i j => match σ[i]? with
    | some (.cells cs) => (match cs[j]?, w.cell? ⟨G.bs i, j, none⟩ with | some c, some v => ownB v c | _, _ => none)
    | _ => none

/-- A box's block. -/
structure SpareB (w : World) (x : Bx) (hi : Nat) : Prop where
  sp : Spare w x.b 0 hi
  sh : w.shape? x.b = some x.ty
  nf : x.st = false → ∀ j, w.frozen? ⟨x.b, j, none⟩ = false

/-- A box of the store, as it lies in the world. -/
def EntOK (G : Gh) (w : World) (i : Nat) : Ent → Prop
  | .cells cs => G.K (G.bs i) = .box i ∧ SpareB w (G.bs i) cs.length ∧ ∀ j c, cs[j]? = some c → ∃ v, w.cell? ⟨G.bs i, j, none⟩ = some v ∧ RepO G w v c
  | .gone => True
  | .loop st pend r env0 => G.K (G.bs i) = .box i ∧ w.heap[(G.bs i).b]? = some (.loop { r with state := st, pending := pend }) ∧ ∀ t, look env0 t = .dead ∨ RepS G w (r.tmps.getD t undef) (look env0 t)

def Ent.lt (n : Nat) : Ent → Prop
  | .cells cs => ltAll n cs
  | .loop _ _ _ env0 => ∀ t, (look env0 t).lt n
  | _ => True

/-- The marks of loops over functions among an activation's deferred calls. -/
def Marks (K : Nat → Kind) (w : World) : List Deferred → Prop
  | [] => True
  | d :: r => (∃ b, d = { target := .collected b, args := #[] } ∧ K b = .keep ∧ w.heap[b]? = some (.deferred (some [])) ∧ ∀ d' ∈ r, d' ≠ d) ∧ Marks K w r

structure Sim (n m : Nat) (F : Nat → Prop) (G : Gh) (env : Env) (σ : Sto) (a : Act) (w : World) : Prop where
  size : a.tmps.size = n
  rep : ∀ t, Rep G w (a.tmps.getD t undef) (look env t)
  envlt : ∀ t, (look env t).lt σ.length
  sto : ∀ i e, σ[i]? = some e → EntOK G w i e
  stolt : ∀ (i : Nat) e, σ[i]? = some e → e.lt σ.length
  kfree : ∀ b, G.K b ≠ .free → b < w.heap.size
  inj : ∀ i e, σ[i]? = some e → (∃ c, e = .cells c) ∨ (∃ x y z u, e = .loop x y z u) → ¬ F (G.bs i)
  uniq : ∀ l1 l2 b, ownAt G env σ a.tmps w l1 = some b → ownAt G env σ a.tmps w l2 = some b → l1 = l2
  fr : ∀ l b, ownAt G env σ a.tmps w l = some b → ¬ F b
  frlt : ∀ b, F b → b < w.heap.size
  marks : Marks G.K w a.defers
  markF : ∀ d ∈ a.defers, ∀ b, d.target = .collected b → ¬ F b
  floor : m ≤ σ.length

/-- How the world goes on: what is fixed stays. -/
structure Evol (m : Nat) (F : Nat → Prop) (G : Gh) (w : World) (G' : Gh) (w' : World) : Prop where
  os : w'.os = w.os
  tape : w'.tape = w.tape
  output : w'.output = w.output
  size : w.heap.size ≤ w'.heap.size
  fr : ∀ b, F b → w'.heap[b]? = w.heap[b]? ∧ G'.K b = G.K b
  imm : ∀ b p, G.K b = .imm p → ∃ p', p ≤ p' ∧ G'.K b = .imm p' ∧ ∀ j, j < p → w'.cell? ⟨b, j, none⟩ = w.cell? ⟨b, j, none⟩
  bs : ∀ i, i < m → G'.bs i = G.bs i

theorem Evol.refl (m : Nat) (F : Nat → Prop) (G : Gh) (w : World) : Evol m F G w G w :=
  ⟨rfl, rfl, rfl, Nat.le_refl _, fun _ _ => ⟨rfl, rfl⟩, fun _ p h => ⟨p, Nat.le_refl _, h, fun _ _ => rfl⟩, fun _ _ => rfl⟩

theorem Evol.trans {m : Nat} {F : Nat → Prop} {G1 G2 G3 : Gh} {w1 w2 w3 : World} (h : Evol m F G1 w1 G2 w2) (k : Evol m F G2 w2 G3 w3) : Evol m F G1 w1 G3 w3 := by
  refine ⟨k.os.trans h.os, k.tape.trans h.tape, k.output.trans h.output, Nat.le_trans h.size k.size, fun b hb => ?_, fun b p hp => ?_, fun i hi => (k.bs i hi).trans (h.bs i hi)⟩
  · exact ⟨(k.fr b hb).1.trans (h.fr b hb).1, (k.fr b hb).2.trans (h.fr b hb).2⟩
  · obtain ⟨p', h1, h2, h3⟩ := h.imm b p hp
    obtain ⟨p'', k1, k2, k3⟩ := k.imm b p' h2
    exact ⟨p'', Nat.le_trans h1 k1, k2, fun j hj => (k3 j (by omega)).trans (h3 j hj)⟩

end Go.Proofs.Ytflgoabdgibphaa.Pv
