/- The functions of package site: the ring. -/
import Derived.Test.YtilfahfadlijcaaSiteA
namespace Go.Proofs.Ytilfahfadlijcaa.Pv
open Go
set_option linter.unusedVariables false
set_option linter.unusedSimpArgs false
set_option maxRecDepth 100000

def livesP (n : Int) (live : List Bool) : Bool := decide (0 ≤ n ∧ n < live.length) && live.getD n.toNat default

theorem lives_sat (n : Int) (live : List Bool) (σ : Sto) : SatCall Try.prog 30 [.int .i64 n, .sl .sh 1 (live.map .bool)] σ fun x σ' => x = .bool (livesP n live) ∧ σ' = σ := by
  refine sat_fn tab Try.func30 rfl (Nat.le_of_ble_eq_true rfl) (by decide) fun hso => ?_
  repeat' (first | (apply og_ops; (first | (apply og_guard; (first | (apply ops_guard_t; exact (rfl : _ = some _); exact (rfl : _ = PV.bool _); (assumption)) | (apply ops_guard_f'; exact (rfl : _ = some _); exact (rfl : _ = PV.bool _); (first | exact rfl | assumption); exact ltn rfl) | (apply ops_gsplit; exact (rfl : _ = some _); exact (rfl : _ = PV.bool _); all_goals intro hb))) | (apply og_move; (apply op_move (tt := tt); (focus ((conv => lhs; whnf); try exact rfl)); exact rfl)) | (apply og_assign; (apply op_assign (tt := tt); (focus ((conv => lhs; whnf); try exact rfl)); exact rfl)) | (apply og_bin; (apply op_bin true tab; (focus ((conv => lhs; whnf; arg 1; whnf; arg 2; whnf); try exact rfl)); (exact trivial); exact rfl)) | (apply og_pick; (apply op_pick (tt := tt); exact (rfl : _ = PV.bool _); (first | refine .inr ⟨rfl, ?_⟩ | refine .inl ⟨by assumption, ?_⟩ | refine .inr ⟨by assumption, ?_⟩); (focus ((conv => lhs; whnf); try exact rfl)); exact ltn rfl)) | (apply og_load; (apply op_load tab; (focus ((conv => lhs; whnf; arg 1; whnf; arg 2; whnf); try skip)); (exact trivial); exact rfl)) | (apply og_callb; (apply op_len tab; (focus ((conv => lhs; whnf; arg 1; whnf; arg 2; whnf); try exact rfl)); (exact trivial); exact rfl)) | (apply og_indexAddr; (refine op_indexMap (tI := 3) _ tab rfl (by (focus ((conv => lhs; whnf); try exact rfl))) (by (focus ((conv => lhs; whnf); try exact rfl))) rfl (by (simp only [decide_eq_true_eq, decide_eq_false_iff_not, List.length_map, InR, ne_eq] at *; omega)) (by (simp only [decide_eq_true_eq, decide_eq_false_iff_not, List.length_map, InR, ne_eq] at *; omega)) (by (focus ((conv => lhs; whnf); try exact rfl))) (ltn rfl) ?_)) | (apply ops_nil))) | (apply og_sat; (first | (apply sat_seq) | (apply sat_region) | (apply sat_ret))) | (apply pe_norm))
  all_goals (change fnPost _ _ _ _ _ _ _; apply fn_end1; (exact .inr rfl); exact rfl; (focus ((conv => lhs; whnf); try exact rfl)); exact Wk.same _; exact rfl; exact (List.append_nil _).symm; exact Nat.le_refl _; exact trivial; exact hso)
  all_goals refine ⟨?_, rfl⟩
  all_goals simp only [decide_eq_true_eq, decide_eq_false_iff_not, List.length_map] at *
  all_goals simp [livesP, *] <;> omega

def ringStep (vol nodes : Int) (i : Nat) : Int := Int.tmod (Int.tmod vol nodes + i) nodes
def ringTo (vol nodes : Int) (live : List Bool) (j : Nat) : List Int := ((List.range j).map (ringStep vol nodes)).filter (livesP · live)
def ringP (vol nodes : Int) (live : List Bool) : List Int := if vol < 0 ∨ ¬ (1 ≤ nodes ∧ nodes ≤ 64) then [] else ringTo vol nodes live nodes.toNat

theorem ringTo_succ (vol nodes : Int) (live : List Bool) (j : Nat) : ringTo vol nodes live (j + 1) = ringTo vol nodes live j ++ if livesP (ringStep vol nodes j) live then [ringStep vol nodes j] else [] := by
  simp only [ringTo, List.range_succ, List.map_append, List.filter_append, List.map_cons, List.map_nil]
  congr 1
  cases h : livesP (ringStep vol nodes j) live <;> simp [h]

theorem ringTo_pre (vol nodes : Int) (live : List Bool) {j n : Nat} (h : j ≤ n) : ∃ suf, ringTo vol nodes live n = ringTo vol nodes live j ++ suf := by
  induction n with
  | zero => have : j = 0 := by omega
            subst this; exact ⟨[], by simp⟩
  | succ n ih =>
    by_cases e : j = n + 1
    · subst e; exact ⟨[], by simp⟩
    · obtain ⟨suf, hs⟩ := ih (by omega)
      exact ⟨_, by rw [ringTo_succ, hs, List.append_assoc]⟩

theorem ring1_sat (i pv pn pl : Nat) (vol nodes : Int) (live : List Bool) (σ : Sto) (J : List Int → Sto → Prop) (Jx : Sto → Prop)
    (hkeep : ∀ k s, J k s → s[pv]? = some (.cells [.int .i64 vol]) ∧ s[pn]? = some (.cells [.int .i64 nodes]) ∧ s[pl]? = some (.cells [.sl .sh 1 (live.map .bool)]))
    (hy : ∀ pre v suf s, ringP vol nodes live = pre ++ v :: suf → J pre s → SatYield Try.prog i [.int .i64 v] s fun b s' => (b = true ∧ J (pre ++ [v]) s') ∨ (b = false ∧ Jx s'))
    (h0 : J [] σ) : SatCall Try.prog 29 [.yld i, .ptr pv 0, .ptr pn 0, .ptr pl 0] σ fun x s' => J (ringP vol nodes live) s' ∨ Jx s' := by
  refine sat_fn tab Try.func29 rfl (Nat.le_of_ble_eq_true rfl) (by decide) fun hso => ?_
  obtain ⟨k1, k2, k3⟩ := hkeep _ _ h0
  repeat' (first | (apply og_ops; (first | (apply og_guard; (first | (apply ops_guard_t; exact (rfl : _ = some _); exact (rfl : _ = PV.bool _); (assumption)) | (apply ops_guard_f'; exact (rfl : _ = some _); exact (rfl : _ = PV.bool _); (assumption); exact ltn rfl) | (apply ops_gsplit; exact (rfl : _ = some _); exact (rfl : _ = PV.bool _); all_goals intro hb))) | (apply og_move; (apply op_move (tt := tt); (focus ((conv => lhs; whnf); try exact rfl)); exact rfl)) | (apply og_callv; (refine op_callP (tt := tt) cal24 (may_sat _ _) rfl rfl rfl rfl rfl ?_)) | (apply og_bin; (apply op_bin true tab; (focus ((conv => lhs; whnf; arg 1; whnf; arg 2; whnf); try exact rfl)); (exact trivial); exact rfl)) | (apply og_pick; (apply op_pick (tt := tt); exact (rfl : _ = PV.bool _); (first | refine .inl ⟨by assumption, ?_⟩ | refine .inr ⟨by assumption, ?_⟩); (focus ((conv => lhs; whnf); try exact rfl)); exact ltn rfl)) | (apply og_load; (apply op_lk; (apply lk_loadB tab; exact rfl; exact rfl; (assumption); (focus ((conv => lhs; whnf; arg 1; whnf; arg 2; whnf); try skip)); (exact trivial)); (intro c h; cases h); exact rfl)) | (apply og_un; (apply op_un (tt := tt) true; (focus ((conv => lhs; whnf; arg 1; whnf; arg 2; whnf); try exact rfl)); (exact trivial); exact rfl)) | (apply ops_nil))) | (apply og_sat; (first | (apply sat_seq) | (apply sat_region) | (apply sat_cond_t; exact rfl; (exact rfl)) | (apply sat_cond; exact (rfl : _ = PV.bool _); all_goals intro hb) | (apply sat_skip) | (apply sat_ret) | (apply sat_block))) | (apply pe_norm) | (apply pe_ret))
  · (change fnPost _ _ _ _ _ _ _; apply fn_end0; (exact .inr rfl); exact rfl)
    left
    simp only [decide_eq_true_eq, decide_eq_false_iff_not] at *
    have : ringP vol nodes live = [] := by simp [ringP, *]
    rw [this]; exact h0
  · (change fnPost _ _ _ _ _ _ _; apply fn_end0; (exact .inr rfl); exact rfl)
    left
    simp only [decide_eq_true_eq, decide_eq_false_iff_not, Bool.not_eq_true'] at *
    have : ringP vol nodes live = [] := by simp only [ringP]; rw [if_pos (.inr ‹_›)]
    rw [this]; exact h0
  · simp only [decide_eq_true_eq, decide_eq_false_iff_not, Bool.not_eq_false'] at *
    rename_i hv
    have hP : ringP vol nodes live = ringTo vol nodes live nodes.toNat := by simp only [ringP]; rw [if_neg (by omega)]
    refine sat_loopW (fun x : Nat × Sto => [(0, .yld i), (1, .ptr pv 0), (2, .ptr pn 0), (3, .ptr pl 0), (14, .int .i64 nodes), (15, .int .i64 x.1)]) (·.2) (fun x => x.1 ≤ nodes.toNat ∧ J (ringTo vol nodes live x.1) x.2) (fun x => nodes.toNat - x.1) (0, σ)
      ⟨Nat.zero_le _, h0⟩ ⟨Wk.same _, Wk.same _, Wk.same _, Wk.same _, Wk.same _, Wk.same _, trivial⟩ rfl ?_
    rintro ⟨j, s⟩ ⟨hj, hJ⟩
    simp only at hj hJ ⊢
    obtain ⟨q1, q2, q3⟩ := hkeep _ _ hJ
    have hm1 : 0 ≤ vol.tmod nodes := Int.tmod_nonneg _ (by omega)
    have hm2 : vol.tmod nodes < nodes := Int.tmod_lt_of_pos _ (by omega)
    repeat' (first | (apply og_ops; (first | (apply og_guard; (first | (apply ops_guard_t; exact (rfl : _ = some _); exact (rfl : _ = PV.bool _); (assumption)) | (apply ops_guard_f'; exact (rfl : _ = some _); exact (rfl : _ = PV.bool _); (assumption); exact ltn rfl) | (apply ops_gsplit; exact (rfl : _ = some _); exact (rfl : _ = PV.bool _); all_goals intro hb))) | (apply og_move; (apply op_move (tt := tt); (focus ((conv => lhs; whnf); try exact rfl)); exact rfl)) | (apply og_assign; (apply op_assign (tt := tt); (focus ((conv => lhs; whnf); try exact rfl)); exact rfl)) | (apply og_callv; (refine op_callP (tt := tt) cal30 (lives_sat _ _ _) rfl rfl rfl rfl rfl ?_)) | (apply og_bin; (apply op_bin true tab; (focus ((conv => lhs; whnf; arg 1; whnf; arg 2; whnf); try exact rfl)); (first | exact trivial | omega | (simp only [InR]; omega)); exact rfl)) | (apply og_pick; (apply op_pick (tt := tt); exact (rfl : _ = PV.bool _); (refine .inr ⟨by assumption, ?_⟩); (focus ((conv => lhs; whnf); try exact rfl)); exact ltn rfl)) | (apply og_load; (apply op_lk; (apply lk_loadB tab; exact rfl; exact rfl; (assumption); (focus ((conv => lhs; whnf; arg 1; whnf; arg 2; whnf); try skip)); (exact trivial)); (intro c h; cases h); exact rfl)) | (apply ops_nil))) | (apply og_sat; (first | (apply sat_seq) | (apply sat_region) | (apply sat_cond_f; exact rfl; (exact rfl)) | (apply sat_cond; exact (rfl : _ = PV.bool _); all_goals intro hb) | (apply sat_skip) | (apply sat_block) | (apply sat_exit) | (apply sat_drawC (k := 6); exact mixed; decide +kernel; decide +kernel))) | (apply pe_norm) | (apply pb_norm) | (apply pe_exit) | (apply pb_same) | (apply og_dd; (first | (apply dd_lk; (first | (apply lg_move; (apply lk_move (tt := tt); (focus ((conv => lhs; whnf); try exact rfl)))) | (apply lg_bin; (apply lk_bin true tab; (focus ((conv => lhs; whnf; arg 1; whnf; arg 2; whnf); try exact rfl)); (first | omega | (simp only [InR]; omega)))) | (apply lg_load; (apply lk_loadB tab; exact rfl; exact rfl; (assumption); (focus ((conv => lhs; whnf; arg 1; whnf; arg 2; whnf); try skip)); (exact trivial)))); exact rfl; exact rfl) | (apply dd_nil))))
    · have hlt : (j : Int) < nodes := of_decide_eq_true ‹_›
      have hstep : livesP (ringStep vol nodes j) live = true := ‹_›
      have hto := ringTo_succ vol nodes live j
      rw [hstep] at hto
      simp only [if_true] at hto
      obtain ⟨suf, hs⟩ := ringTo_pre vol nodes live (j := j + 1) (n := nodes.toNat) (by omega)
      refine op_yield (tt := tt) (i := i) rfl rfl (by decide) rfl (hy (ringTo vol nodes live j) (ringStep vol nodes j) suf s (by rw [hP, hs, hto, List.append_assoc]; rfl) hJ) (ltn rfl) ?_
      rintro b s' (⟨rfl, hJ'⟩ | ⟨rfl, hJ'⟩)
      · rw [← hto] at hJ'
        repeat' (first | (apply og_ops; (first | (apply og_guard; (apply ops_guard_t; exact (rfl : _ = some _); exact (rfl : _ = PV.bool _); (assumption))) | (apply og_move; (apply op_move (tt := tt); (focus ((conv => lhs; whnf); try exact rfl)); exact rfl)) | (apply og_bin; (apply op_bin true tab; (focus ((conv => lhs; whnf; arg 1; whnf; arg 2; whnf); try exact rfl)); (simp only [InR]; omega); exact rfl)) | (apply og_pick; (apply op_pick (tt := tt); exact (rfl : _ = PV.bool _); (refine .inl ⟨by assumption, ?_⟩); (focus ((conv => lhs; whnf); try exact rfl)); exact ltn rfl)) | (apply og_un; (apply op_un (tt := tt) true; (focus ((conv => lhs; whnf; arg 1; whnf; arg 2; whnf); try exact rfl)); (exact trivial); exact rfl)) | (apply ops_nil))) | (apply og_sat; (first | (apply sat_region) | (apply sat_cond_f; exact rfl; (exact rfl)) | (apply sat_skip))) | (apply pe_norm) | (apply pb_norm))
        refine ⟨(j + 1, s'), ⟨by simp only; omega, hJ'⟩, by simp only; omega, ?_, rfl⟩
        (repeat' (first | exact trivial | exact Wk.same _ | refine ⟨?_, ?_⟩))
      · repeat' (first | (apply og_ops; (first | (apply og_guard; (apply ops_guard_t; exact (rfl : _ = some _); exact (rfl : _ = PV.bool _); (assumption))) | (apply og_pick; (apply op_pick (tt := tt); exact (rfl : _ = PV.bool _); (refine .inl ⟨by assumption, ?_⟩); (focus ((conv => lhs; whnf); try exact rfl)); exact ltn rfl)) | (apply og_un; (apply op_un (tt := tt) true; (focus ((conv => lhs; whnf; arg 1; whnf; arg 2; whnf); try exact rfl)); (exact trivial); exact rfl)) | (apply ops_nil))) | (apply og_sat; (first | (apply sat_cond_t; exact rfl; (exact rfl)) | (apply sat_ret))) | (apply pe_norm) | (apply pe_ret) | (apply pb_ret))
        (change fnPost _ _ _ _ _ _ _; apply fn_end0; (exact .inr rfl); exact rfl)
        exact .inr hJ'
    · have hlt : (j : Int) < nodes := of_decide_eq_true ‹_›
      refine ⟨(j + 1, s), ⟨by simp only; omega, ?_⟩, by simp only; omega, ?_, rfl⟩
      · have hstep : livesP (ringStep vol nodes j) live = false := ‹_›
        simp only [ringTo_succ, hstep]
        simpa using hJ
      · (repeat' (first | exact trivial | exact Wk.same _ | refine ⟨?_, ?_⟩))
    · (change fnPost _ _ _ _ _ _ _; apply fn_end0; (exact .inl rfl); exact rfl)
      left
      have hlt := of_decide_eq_false (p := (j : Int) < nodes) ‹_›
      have : nodes.toNat = j := by omega
      rw [hP, this]; exact hJ

end Go.Proofs.Ytilfahfadlijcaa.Pv
