/- The document's answer for indexes: what a command does (all of it). -/
import Derived.Test.YtenmnbjhebmpjaaLibDoA
import Derived.Test.YtenmnbjhebmpjaaLibDoB
import Derived.Test.YtenmnbjhebmpjaaLibDoC
import Derived.Test.YtenmnbjhebmpjaaLibDoD
/- ENC: vl ss -/
namespace Go.Proofs.Ytenmnbjhebmpjaa.Pv
open Go
set_option linter.unusedVariables false
set_option linter.unusedSimpArgs false
set_option maxRecDepth 100000

theorem does_sat (x : Ix) (c : Cm) (hx : OkI x) (ho : 0 ≤ c.off ∧ c.off ≤ 1048576) (hn : 0 ≤ c.n ∧ c.n ≤ 1048576) (hi : 0 ≤ c.idx ∧ c.idx ≤ 1048576) (hcp : c.places.length ≤ 14) (σ : Sto) : SatCall Try.prog 41 [ix x, cm c] σ fun r σ' => r = .tup [ix (doesX x c).1, rp (doesX x c).2] ∧ σ' = σ := by
  unfold doesX
  by_cases k1 : c.kind = 1
  · rw [if_pos k1]; exact does_1 x c hx ho hn hi hcp k1 σ
  rw [if_neg k1]
  by_cases k3 : c.kind = 3
  · rw [if_pos k3]; exact does_3 x c hx ho hn hi hcp k3 σ
  rw [if_neg k3]
  by_cases k4 : c.kind = 4
  · rw [if_pos k4]; exact does_4 x c hx ho hn hi hcp k4 σ
  rw [if_neg k4]
  by_cases k5 : c.kind = 5
  · rw [if_pos k5]; exact does_5 x c hx ho hn hi hcp k5 σ
  rw [if_neg k5]
  by_cases k8 : c.kind = 8
  · rw [if_pos k8]; exact does_8 x c hx ho hn hi hcp k8 σ
  rw [if_neg k8]
  by_cases h0 : volI x c.vol < 0
  · exact does_none x c hx ho hn hi hcp k1 k3 k4 k5 k8 h0 σ
  by_cases k2 : c.kind = 2
  · exact does_2 x c hx ho hn hi hcp k1 k3 k4 k5 k8 h0 k2 σ
  by_cases k6 : c.kind = 6
  · exact does_6 x c hx ho hn hi hcp k1 k3 k4 k5 k8 h0 k2 k6 σ
  by_cases k7 : c.kind = 7
  · exact does_7 x c hx ho hn hi hcp k1 k3 k4 k5 k8 h0 k2 k6 k7 σ
  · exact does_9 x c hx ho hn hi hcp k1 k3 k4 k5 k8 h0 k2 k6 k7 σ

end Go.Proofs.Ytenmnbjhebmpjaa.Pv
