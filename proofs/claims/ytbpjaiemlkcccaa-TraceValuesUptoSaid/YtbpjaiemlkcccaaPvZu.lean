/- Builders of texts: a box with its own address and a row of bytes of its own; the text of the row. -/
import Derived.Test.YtbpjaiemlkcccaaPvM3
import Derived.Lib.Builder
import Derived.Lib.UnsafeStr
namespace Go.Proofs.Ytbpjaiemlkcccaa.Pv
open Go
set_option linter.unusedVariables false
set_option linter.unusedSimpArgs false

section
variable {n m : Nat} {F : Fr} {G : Gh} {env : Env} {σ : Sto} {a : Act} {w : World}

end

section
variable {P : Program} {l : Option Nat} {tt : TT} {n m : Nat} {all : Array Oper} {rest : List Oper} {env : Env} {σ : Sto} {Q : Post} {d : Nat} {ty : TypeId} {pos : String} {after : Array Edge} {dd : Option Nat} {g : Option (Nat × Bool)}

theorem wy {x : Operand} {i off : Nat} (hx : opv tt env 0 x = .ptr i off) : LookAt P n m env σ ⟨dd, .nilCheck x, ty, pos, after, g⟩ (.ptr i off) := ⟨fun F G a w hs => by
  have h1 := o7 hs tt 0 x
  have h2 := yf hs tt 0 x
  rw [hx] at h1 h2
  have ex := (h1.toS rfl).ptrv
  exact ⟨a.eval x, by simp only [execOp, ex]; rfl, h1, h2⟩⟩

end
end Go.Proofs.Ytbpjaiemlkcccaa.Pv
