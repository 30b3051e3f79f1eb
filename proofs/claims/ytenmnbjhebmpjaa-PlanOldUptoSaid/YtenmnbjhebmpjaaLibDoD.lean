/- The document's answer for indexes: what a command does (moved: joined). -/
import Derived.Test.YtenmnbjhebmpjaaLibDoG
import Derived.Test.YtenmnbjhebmpjaaLibDoH
import Derived.Test.YtenmnbjhebmpjaaLibDoI
/- ENC: vl ss -/
namespace Go.Proofs.Ytenmnbjhebmpjaa.Pv
open Go
set_option linter.unusedVariables false
set_option linter.unusedSimpArgs false
set_option maxRecDepth 100000

set_option maxHeartbeats 8000000 in
theorem does_9 (x : Ix) (c : Cm) (hx : OkI x) (ho : 0 ≤ c.off ∧ c.off ≤ 1048576) (hn : 0 ≤ c.n ∧ c.n ≤ 1048576) (hi : 0 ≤ c.idx ∧ c.idx ≤ 1048576) (hcp : c.places.length ≤ 14) (n1 : c.kind ≠ 1) (n3 : c.kind ≠ 3) (n4 : c.kind ≠ 4) (n5 : c.kind ≠ 5) (n8 : c.kind ≠ 8) (h0 : ¬ volI x c.vol < 0) (n2 : c.kind ≠ 2) (n6 : c.kind ≠ 6) (n7 : c.kind ≠ 7) (σ : Sto) : SatCall Try.prog 41 [ix x, cm c] σ fun r σ' => r = .tup [ix (volX x c).1, rp (volX x c).2] ∧ σ' = σ := by
  by_cases h1 : (x.vols.getD (volI x c.vol).toNat default).phase < 3
  · exact does_9a x c hx ho hn hi hcp n1 n3 n4 n5 n8 h0 n2 n6 n7 (.inl h1) σ
  by_cases h2 : ((x.vols.getD (volI x c.vol).toNat default).places.length : Int) ≤ c.idx ∨ c.places.length ≠ 1 ∨ (c.places.getD 0 default).1 ≠ (x.vols.getD (volI x c.vol).toNat default).home
  · exact does_9a x c hx ho hn hi hcp n1 n3 n4 n5 n8 h0 n2 n6 n7 (.inr h2) σ
  by_cases h6 : (x.vols.getD (volI x c.vol).toNat default).places.any (fun p => decide (p = (c.places.getD 0 default))) = true
  · exact does_9b x c hx ho hn hi hcp n1 n3 n4 n5 n8 h0 n2 n6 n7 h1 h2 h6 σ
  · exact does_9c x c hx ho hn hi hcp n1 n3 n4 n5 n8 h0 n2 n6 n7 h1 h2 h6 σ

end Go.Proofs.Ytenmnbjhebmpjaa.Pv
