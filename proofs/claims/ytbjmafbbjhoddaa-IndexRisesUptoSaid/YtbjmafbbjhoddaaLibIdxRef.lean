/- The document's answer for indexes: may a command be; the place of a name, of a session; another volume in a place. -/
import Derived.Test.YtbjmafbbjhoddaaLibIdx
/- ENC: vl ss -/
namespace Go.Proofs.Ytbjmafbbjhoddaa.Pv
open Go
set_option linter.unusedVariables false
set_option linter.unusedSimpArgs false
set_option maxRecDepth 100000

/-- A command. -/
structure Cm where
  kind : Int
  client : Int
  seq : Int
  name : ByteArray
  vol : Int
  off : Int
  n : Int
  sum : Int
  region : Int
  mate : Int
  idx : Int
  places : List (Int × Int)
  deriving Inhabited, DecidableEq
def cm (c : Cm) : PV :=
  .agg [.int .i64 c.kind, .int .i64 c.client, .int .i64 c.seq, .str c.name, .int .i64 c.vol, .int .i64 c.off, .int .i64 c.n, .int .u32 c.sum, .int .i64 c.region, .int .i64 c.mate, .int .i64 c.idx, .sl .sh 2 (c.places.map plc)]
/-- A reply. -/
structure Rp where
  err : Int
  vol : Int
  off : Int
  n : Int
  sum : Int
  found : Bool
  deriving Inhabited, DecidableEq
def rp (r : Rp) : PV :=
  .agg [.int .i64 r.err, .int .i64 r.vol, .int .i64 r.off, .int .i64 r.n, .int .u32 r.sum, .bool r.found]

def smallP (n : Int) : Bool := decide (0 ≤ n ∧ n ≤ 1048576)
def okPl (p : Int × Int) : Bool := decide ((1 ≤ p.1 ∧ p.1 ≤ 3) ∧ (0 ≤ p.2 ∧ p.2 ≤ 63))
def headC (c : Cm) : Bool := decide ((1 ≤ c.kind ∧ c.kind ≤ 9) ∧ (0 ≤ c.client ∧ c.client ≤ 16) ∧ (0 ≤ c.seq ∧ c.seq ≤ 1073741824) ∧ c.name.size ≤ 16 ∧ c.places.length ≤ 14)
def mayC (c : Cm) : Bool := headC c && ((smallP c.vol && smallP c.off && smallP c.n) && (smallP c.region && smallP c.mate && smallP c.idx)) && c.places.all okPl

theorem mayC_head {c : Cm} (h : headC c = false) : mayC c = false := by simp [mayC, h]
section
variable {P : Program} {l : Option Nat} {tt : TT} {n m : Nat} {all : Array Oper} {rest : List Oper} {env : Env} {τ ex : Sto} {Q : Post} {d : Nat} {ty : TypeId} {pos : String} {after : Array Edge}
end

/-- An index with another volume in a place, or behind all. -/
def setL {α : Type} (l : List α) (i : Int) (x : α) : List α := if i < 0 then l ++ [x] else l.set i.toNat x
theorem setL_len {α : Type} (l : List α) (i : Int) (x : α) : (setL l i x).length ≤ l.length + 1 := by
  unfold setL; split <;> simp
end Go.Proofs.Ytbjmafbbjhoddaa.Pv
