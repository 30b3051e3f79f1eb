/- The ring has all living nodes, each once, and begins with the first one: plain Lean. -/
import Derived.Test.YtilfahfadlijcaaSiteB
namespace Go.Proofs.Ytilfahfadlijcaa.Pv
open Go
set_option linter.unusedVariables false
set_option linter.unusedSimpArgs false

theorem rot_eq (v N : Nat) (h : v < N) : (List.range N).map (fun i => (v + i) % N) = List.range' v (N - v) ++ List.range v := by
  refine List.ext_getElem (by simp; omega) fun i h1 h2 => ?_
  simp only [List.length_map, List.length_range] at h1
  rw [List.getElem_map, List.getElem_range]
  by_cases hi : i < N - v
  · rw [List.getElem_append_left (by simpa using hi)]
    simp only [List.getElem_range', Nat.one_mul]
    exact Nat.mod_eq_of_lt (by omega)
  · rw [List.getElem_append_right (by simpa using hi)]
    simp only [List.getElem_range, List.length_range']
    rw [show v + i = (i - (N - v)) + N by omega, Nat.add_mod_right]
    exact Nat.mod_eq_of_lt (by omega)

theorem rot_perm (v N : Nat) (h : v < N) : ((List.range N).map (fun i => (v + i) % N)).Perm (List.range N) := by
  rw [rot_eq v N h]
  refine List.perm_append_comm.trans ?_
  have : List.range v ++ List.range' v (N - v) = List.range N := by
    rw [List.range_eq_range', List.range_eq_range']
    have := List.range'_append (s := 0) (m := v) (n := N - v) (step := 1)
    simp only [Nat.zero_add, Nat.one_mul] at this
    rw [this]; congr 1; omega
  rw [this]

theorem step_nat {vol nodes : Int} (h0 : 0 ≤ vol) (h1 : 1 ≤ nodes) (i : Nat) : ringStep vol nodes i = (((vol.tmod nodes).toNat + i) % nodes.toNat : Nat) := by
  have hm : 0 ≤ vol.tmod nodes := Int.tmod_nonneg _ h0
  obtain ⟨m, hm'⟩ := Int.eq_ofNat_of_zero_le hm
  obtain ⟨N, rfl⟩ := Int.eq_ofNat_of_zero_le (show 0 ≤ nodes by omega)
  unfold ringStep
  rw [hm']
  rfl

theorem ring_nat {vol nodes : Int} (live : List Bool) (h0 : 0 ≤ vol) (h1 : 1 ≤ nodes) (h2 : nodes ≤ 64) :
    ringP vol nodes live = (((List.range nodes.toNat).map fun i => ((vol.tmod nodes).toNat + i) % nodes.toNat).map (fun n : Nat => (n : Int))).filter (livesP · live) := by
  unfold ringP ringTo
  rw [if_neg (by omega)]
  congr 1
  rw [List.map_map]
  exact List.map_congr_left fun i _ => step_nat h0 h1 i

theorem tmod_lt {vol nodes : Int} (h0 : 0 ≤ vol) (h1 : 1 ≤ nodes) : (vol.tmod nodes).toNat < nodes.toNat := by
  have hm : 0 ≤ vol.tmod nodes := Int.tmod_nonneg _ h0
  have := Int.tmod_lt_of_pos vol (show 0 < nodes by omega)
  omega

theorem ring_perm {vol nodes : Int} (live : List Bool) (h0 : 0 ≤ vol) (h1 : 1 ≤ nodes) (h2 : nodes ≤ 64) :
    (ringP vol nodes live).Perm (((List.range nodes.toNat).map (fun n : Nat => (n : Int))).filter (livesP · live)) := by
  rw [ring_nat live h0 h1 h2]
  exact ((rot_perm _ _ (tmod_lt h0 h1)).map _).filter _

theorem count_range (N n : Nat) : ((List.range N).map (fun n : Nat => (n : Int))).count (n : Int) = if n < N then 1 else 0 := by
  induction N with
  | zero => rfl
  | succ N ih =>
    rw [List.range_succ, List.map_append, List.count_append, ih]
    simp only [List.map_cons, List.map_nil, List.count_singleton]
    by_cases e : n = N
    · subst e; simp
    · have : ((N : Int) == (n : Int)) = false := by simp; omega
      rw [this]
      by_cases h : n < N
      · simp [h, show n < N + 1 by omega]
      · simp [h, show ¬ n < N + 1 by omega]

theorem ring_once {vol nodes : Int} {live : List Bool} (h0 : 0 ≤ vol) (h1 : 1 ≤ nodes) (h2 : nodes ≤ 64) (n : Nat) (hn : (n : Int) < nodes) (hl : livesP n live = true) : (ringP vol nodes live).count (n : Int) = 1 := by
  rw [(ring_perm live h0 h1 h2).count_eq, List.count_filter (by exact hl), count_range, if_pos (by omega)]

theorem ring_first {vol nodes : Int} {live : List Bool} (h0 : 0 ≤ vol) (h1 : 1 ≤ nodes) (h2 : nodes ≤ 64) (hl : livesP (vol.tmod nodes) live = true) : ∃ r, ringP vol nodes live = vol.tmod nodes :: r := by
  rw [ring_nat live h0 h1 h2]
  obtain ⟨N, hN⟩ : ∃ N, nodes.toNat = N + 1 := ⟨nodes.toNat - 1, by omega⟩
  have hm : 0 ≤ vol.tmod nodes := Int.tmod_nonneg _ h0
  have hlt := tmod_lt h0 h1
  have e : (((vol.tmod nodes).toNat + 0) % nodes.toNat : Nat) = (vol.tmod nodes).toNat := by rw [Nat.add_zero]; exact Nat.mod_eq_of_lt hlt
  have e2 : (((vol.tmod nodes).toNat : Nat) : Int) = vol.tmod nodes := by omega
  rw [show List.range nodes.toNat = 0 :: (List.range N).map Nat.succ by rw [hN, List.range_succ_eq_map]]
  simp only [List.map_cons, e, e2, List.filter_cons, hl, if_true]
  exact ⟨_, rfl⟩

end Go.Proofs.Ytilfahfadlijcaa.Pv
