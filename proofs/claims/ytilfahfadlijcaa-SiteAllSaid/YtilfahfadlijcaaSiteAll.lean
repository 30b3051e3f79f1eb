/- The law SiteAll, of whatever comes in. -/
import Derived.Test.YtilfahfadlijcaaSiteE
import Derived.Test.YtilfahfadlijcaaSiteF
namespace Go.Proofs.Ytilfahfadlijcaa.Pv
open Go
set_option linter.unusedVariables false

theorem ring_len {vol nodes : Int} {live : List Bool} (h0 : 0 ≤ vol) (h1 : 1 ≤ nodes) (h2 : nodes ≤ 64) : (ringP vol nodes live).length = cnt live nodes.toNat := by
  rw [(ring_perm live h0 h1 h2).length_eq, List.filter_map, List.length_map]; rfl

theorem siteAll_all (vol nodes : Int) (live : List Bool) (σ : Sto) : SatCall Try.prog 3 [.int .i64 vol, .int .i64 nodes, .sl .sh 1 (live.map .bool)] σ fun x σ' => x = .bool true ∧ σ' = σ :=
  siteAll_sat vol nodes live σ (fun h0 h1 h2 n hn hl => ring_once h0 h1 h2 n hn hl) (fun h0 h1 h2 => ring_len h0 h1 h2) (fun h0 h1 h2 hl => ring_first h0 h1 h2 hl)

theorem bools_of {es : List PV} (h : ∀ x ∈ es, ∃ c, x = mkV .bool c ∧ HasC .bool c) : ∃ bs : List Bool, es = bs.map .bool := by
  induction es with
  | nil => exact ⟨[], rfl⟩
  | cons x r ih =>
    obtain ⟨bs, rfl⟩ := ih fun y hy => h y (List.mem_cons_of_mem _ hy)
    obtain ⟨c, rfl, b, rfl⟩ := h x List.mem_cons_self
    exact ⟨b :: bs, rfl⟩

theorem siteAll_law (c0 : List PV) (h0 : HasC (.int .i64) c0) (c1 : List PV) (h1 : HasC (.int .i64) c1) (c2 : List PV) (h2 : HasC (.sl 1 .bool) c2) :
    SatCall Try.prog 3 [mkV (.int .i64) c0, mkV (.int .i64) c1, mkV (.sl 1 .bool) c2] [] fun r _ => r = .bool true := by
  obtain ⟨a, _, rfl⟩ := h0
  obtain ⟨b, _, rfl⟩ := h1
  obtain ⟨es, rfl, _, he⟩ := h2
  obtain ⟨bs, rfl⟩ := bools_of he
  exact (siteAll_all a b bs []).mono fun _ _ h => h.1

end Go.Proofs.Ytilfahfadlijcaa.Pv
