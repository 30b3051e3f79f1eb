/- The document's ring. -/
import Derived.Test.YtilfahfadlijcaaSiteG
import Derived.Test.YtilfahfadlijcaaSiteF
namespace Go.Proofs.Ytilfahfadlijcaa.Pv
open Go
set_option linter.unusedVariables false
set_option linter.unusedSimpArgs false
set_option maxRecDepth 100000

/-- The living ones among a row of numbers. -/
def liv (live : List Bool) (l : List Nat) : List Int := (l.map fun n : Nat => (n : Int)).filter (livesP · live)

theorem liv_len (live : List Bool) (l : List Nat) : (liv live l).length ≤ l.length := by
  refine Nat.le_trans (List.length_filter_le _ _) ?_
  simp
theorem liv_app (live : List Bool) (l r : List Nat) : liv live (l ++ r) = liv live l ++ liv live r := by simp [liv]
theorem liv_range (live : List Bool) {v n : Nat} (h : v ≤ n) : liv live (List.range' v (n + 1 - v)) = liv live (List.range' v (n - v)) ++ if livesP n live then [(n : Int)] else [] := by
  rw [show n + 1 - v = (n - v) + 1 by omega, List.range'_concat, liv_app]
  congr 1
  rw [Nat.one_mul, show v + (n - v) = n by omega]
  cases hl : livesP n live <;> simp [liv, hl]
theorem livesP_nat (n : Nat) (live : List Bool) : livesP n live = (decide ((n : Int) < ((live.map PV.bool).length : Int)) && live.getD n default) := by
  simp [livesP]

theorem refRing_sat (vol nodes : Int) (live : List Bool) (σ : Sto) : SatCall Try.prog 14 [.int .i64 vol, .int .i64 nodes, .sl .sh 1 (live.map .bool)] σ fun x σ' => x = .sl .sh 1 ((ringP vol nodes live).map (.int .i64)) ∧ σ' = σ := by
  refine sat_fn tab Try.func14 rfl (Nat.le_of_ble_eq_true rfl) (by decide) fun hso => ?_
  repeat' (first | (apply og_ops; (first | (apply og_guard; (first | (apply ops_guard_t; exact (rfl : _ = some _); exact (rfl : _ = PV.bool _); (assumption)) | (apply ops_guard_f'; exact (rfl : _ = some _); exact (rfl : _ = PV.bool _); (first | exact rfl | assumption); exact ltn rfl) | (apply ops_gsplit; exact (rfl : _ = some _); exact (rfl : _ = PV.bool _); all_goals intro hb))) | (apply og_move; (apply op_move (tt := tt); (focus ((conv => lhs; whnf); try exact rfl)); exact rfl)) | (apply og_assign; (first | (apply op_nil (tt := tt); exact rfl; exact ltn rfl) | (apply op_assign (tt := tt); (focus ((conv => lhs; whnf); try exact rfl)); exact rfl))) | (apply og_bin; (apply op_bin true tab; (focus ((conv => lhs; whnf; arg 1; whnf; arg 2; whnf); try exact rfl)); (first | exact trivial | (simp only [decide_eq_true_eq, decide_eq_false_iff_not, List.length_map, InR, ne_eq] at *; omega)); exact rfl)) | (apply og_pick; (apply op_pick (tt := tt); exact (rfl : _ = PV.bool _); (first | refine .inl ⟨rfl, ?_⟩ | refine .inl ⟨by assumption, ?_⟩ | refine .inr ⟨by assumption, ?_⟩); (focus ((conv => lhs; whnf); try exact rfl)); exact ltn rfl)) | (apply ops_nil))) | (apply og_sat; (first | (apply sat_seq) | (apply sat_region) | (apply sat_cond_t; exact rfl; (exact rfl)) | (apply sat_cond; exact (rfl : _ = PV.bool _); all_goals intro hb) | (apply sat_skip) | (apply sat_ret) | (apply sat_block))) | (apply pe_norm) | (apply pe_ret))
  · (change fnPost _ _ _ _ _ _ _; apply fn_end1; (exact .inr rfl); exact rfl; (focus ((conv => lhs; whnf); try exact rfl)); (exact Wk.sh); exact rfl; exact (List.append_nil _).symm; exact Nat.le_refl _; exact trivial; exact hso)
    have : ringP vol nodes live = [] := by simp only [ringP]; rw [if_pos (.inl (of_decide_eq_true ‹_›))]
    exact ⟨by rw [this]; rfl, rfl⟩
  · (change fnPost _ _ _ _ _ _ _; apply fn_end1; (exact .inr rfl); exact rfl; (focus ((conv => lhs; whnf); try exact rfl)); (exact Wk.sh); exact rfl; exact (List.append_nil _).symm; exact Nat.le_refl _; exact trivial; exact hso)
    have : ringP vol nodes live = [] := by simp only [ringP]; rw [if_pos (.inr (by have := of_decide_eq_true (p := nodes < 1) ‹_›; omega))]
    exact ⟨by rw [this]; rfl, rfl⟩
  · (change fnPost _ _ _ _ _ _ _; apply fn_end1; (exact .inr rfl); exact rfl; (focus ((conv => lhs; whnf); try exact rfl)); (exact Wk.sh); exact rfl; exact (List.append_nil _).symm; exact Nat.le_refl _; exact trivial; exact hso)
    have : ringP vol nodes live = [] := by simp only [ringP]; rw [if_pos (.inr (by have := of_decide_eq_true (p := 64 < nodes) ‹_›; omega))]
    exact ⟨by rw [this]; rfl, rfl⟩
  · have hv := of_decide_eq_false (p := vol < 0) ‹_›
    have hn1 := of_decide_eq_false (p := nodes < 1) ‹_›
    have hn2 := of_decide_eq_false (p := 64 < nodes) ‹_›
    have hm : 0 ≤ vol.tmod nodes := Int.tmod_nonneg _ (by omega)
    have hlt := tmod_lt (vol := vol) (nodes := nodes) (by omega) (by omega)
    obtain ⟨v, hvv⟩ : ∃ v : Nat, vol.tmod nodes = v := ⟨(vol.tmod nodes).toNat, by omega⟩
    have hvn : v < nodes.toNat := by rw [hvv] at hlt; simpa using hlt
    refine sat_loopW (fun n : Nat => [(0, .int .i64 vol), (1, .int .i64 nodes), (2, .sl .sh 1 (live.map .bool)), (7, .sl .ow 1 ((liv live (List.range' v (n - v))).map (.int .i64))), (8, .int .i64 n)]) (fun _ => σ) (fun n => v ≤ n ∧ n ≤ nodes.toNat) (fun n => nodes.toNat - n) v ⟨Nat.le_refl _, by omega⟩ ?_ rfl ?_
    · rw [Nat.sub_self]
      simp only [← hvv]
      (repeat' (first | exact trivial | exact Wk.same _ | refine ⟨?_, ?_⟩))
    rintro n ⟨hn, hn'⟩
    have hL := liv_len live (List.range' v (n - v))
    rw [List.length_range'] at hL
    repeat' (first | (apply og_ops; (first | (apply og_guard; (first | (apply ops_guard_t; exact (rfl : _ = some _); exact (rfl : _ = PV.bool _); (assumption)) | (apply ops_guard_f'; exact (rfl : _ = some _); exact (rfl : _ = PV.bool _); (assumption); exact ltn rfl) | (apply ops_gsplit; exact (rfl : _ = some _); exact (rfl : _ = PV.bool _); all_goals intro hb))) | (apply og_move; (first | (apply op_take (d := 38) (.inr rfl); (focus ((conv => lhs; whnf); try exact rfl)); exact rfl; exact ltn rfl) | (apply op_move (tt := tt); (focus ((conv => lhs; whnf); try exact rfl)); exact rfl))) | (apply og_assign; (first | (apply op_take (.inl rfl); (focus ((conv => lhs; whnf); try exact rfl)); exact rfl; exact ltn rfl) | (apply op_assign (tt := tt); (focus ((conv => lhs; whnf); try exact rfl)); exact rfl))) | (apply og_bin; (apply op_bin true tab; (focus ((conv => lhs; whnf; arg 1; whnf; arg 2; whnf); try exact rfl)); (first | exact trivial | (simp only [InR]; omega)); exact rfl)) | (apply og_pick; (apply op_pick (tt := tt); exact (rfl : _ = PV.bool _); (first | refine .inl ⟨by assumption, ?_⟩ | refine .inr ⟨by assumption, ?_⟩); (focus ((conv => lhs; whnf); try exact rfl)); exact ltn rfl)) | (apply og_load; (apply op_load tab; (focus ((conv => lhs; whnf; arg 1; whnf; arg 2; whnf); try skip)); (exact trivial); exact rfl)) | (apply og_callb; (first | (apply op_appendX tab; (focus ((conv => lhs; whnf); try exact rfl)); exact rfl; exact rfl; exact rfl; exact rfl; exact rfl; (focus ((conv => lhs; whnf); try exact rfl)); exact rfl; (simp only [List.length_map, List.length_append, List.length_cons, List.length_nil, List.length_take]; omega); (exact rfl); exact rfl) | (apply op_len tab; (focus ((conv => lhs; whnf; arg 1; whnf; arg 2; whnf); try exact rfl)); (exact trivial); exact rfl))) | (apply og_indexAddr; (refine op_indexMap (tI := 3) _ tab rfl (by (focus ((conv => lhs; whnf); try exact rfl))) (by (focus ((conv => lhs; whnf); try exact rfl))) rfl (by (omega)) (by (simp only [decide_eq_true_eq, decide_eq_false_iff_not, List.length_map, InR, ne_eq] at *; omega)) (by (focus ((conv => lhs; whnf); try exact rfl))) (ltn rfl) ?_)) | (apply og_buildSlice; (apply op_buildSliceX .ow tab; exact rfl; (focus ((repeat (apply opvs_cons; (focus ((conv => lhs; whnf); try exact rfl)))); exact opvs_nil)); exact rfl; exact rfl; exact rfl; exact rfl; exact rfl; exact rfl)) | (apply ops_nil))) | (apply og_sat; (first | (apply sat_seq) | (apply sat_region) | (apply sat_cond_f; exact rfl; (exact rfl)) | (apply sat_cond; exact (rfl : _ = PV.bool _); all_goals intro hb) | (apply sat_skip) | (apply sat_block) | (apply sat_exit))) | (apply pe_norm) | (apply pb_norm) | (apply pe_exit) | (apply pb_same))
    · have hl : livesP n live = true := by rw [livesP_nat]; simp_all
      have hlt' := of_decide_eq_true (p := (n : Int) < nodes) ‹_›
      refine ⟨n + 1, ⟨by omega, by omega⟩, by omega, ?_, rfl⟩
      rw [liv_range live hn, hl]
      (repeat' (first | exact trivial | exact Wk.same _ | (refine Wk.eq ?_; (conv => rhs; whnf); simp <;> fail) | refine ⟨?_, ?_⟩))
    · have hl : livesP n live = false := by rw [livesP_nat]; simp_all
      have hlt' := of_decide_eq_true (p := (n : Int) < nodes) ‹_›
      refine ⟨n + 1, ⟨by omega, by omega⟩, by omega, ?_, rfl⟩
      rw [liv_range live hn, hl]
      (repeat' (first | exact trivial | exact Wk.same _ | (refine Wk.eq ?_; (conv => rhs; whnf); simp <;> fail) | refine ⟨?_, ?_⟩))
    · have hl : livesP n live = false := by rw [livesP_nat]; simp_all
      have hlt' := of_decide_eq_true (p := (n : Int) < nodes) ‹_›
      refine ⟨n + 1, ⟨by omega, by omega⟩, by omega, ?_, rfl⟩
      rw [liv_range live hn, hl]
      (repeat' (first | exact trivial | exact Wk.same _ | (refine Wk.eq ?_; (conv => rhs; whnf); simp <;> fail) | refine ⟨?_, ?_⟩))
    have hlt' := of_decide_eq_false (p := (n : Int) < nodes) ‹_›
    have hnn : n = nodes.toNat := by omega
    refine sat_loopW (fun j : Nat => [(0, .int .i64 vol), (1, .int .i64 nodes), (2, .sl .sh 1 (live.map .bool)), (7, .sl .ow 1 ((liv live (List.range' v (n - v) ++ List.range j)).map (.int .i64))), (9, .int .i64 j)]) (fun _ => σ) (fun j => j ≤ v) (fun j => v - j) 0 (Nat.zero_le _) ?_ rfl ?_
    · rw [List.range_zero, List.append_nil]
      (repeat' (first | exact trivial | exact Wk.same _ | refine ⟨?_, ?_⟩))
    intro j hj
    have hL := liv_len live (List.range' v (n - v) ++ List.range j)
    rw [List.length_append, List.length_range', List.length_range] at hL
    have hs : liv live (List.range' v (n - v) ++ List.range (j + 1)) = liv live (List.range' v (n - v) ++ List.range j) ++ if livesP j live then [(j : Int)] else [] := by
      rw [List.range_succ, ← List.append_assoc, liv_app]
      congr 1
      cases hl : livesP j live <;> simp [liv, hl]
    repeat' (first | (apply og_ops; (first | (apply og_guard; (first | (apply ops_guard_t; exact (rfl : _ = some _); exact (rfl : _ = PV.bool _); (assumption)) | (apply ops_guard_f'; exact (rfl : _ = some _); exact (rfl : _ = PV.bool _); (assumption); exact ltn rfl) | (apply ops_gsplit; exact (rfl : _ = some _); exact (rfl : _ = PV.bool _); all_goals intro hb))) | (apply og_move; (first | (apply op_take (d := 59) (.inr rfl); (focus ((conv => lhs; whnf); try exact rfl)); exact rfl; exact ltn rfl) | (apply op_move (tt := tt); (focus ((conv => lhs; whnf); try exact rfl)); exact rfl))) | (apply og_assign; (first | (apply op_take (.inl rfl); (focus ((conv => lhs; whnf); try exact rfl)); exact rfl; exact ltn rfl) | (apply op_assign (tt := tt); (focus ((conv => lhs; whnf); try exact rfl)); exact rfl))) | (apply og_bin; (apply op_bin true tab; (focus ((conv => lhs; whnf; arg 1; whnf; arg 2; whnf); try exact rfl)); (first | exact trivial | omega | (simp only [InR]; omega)); exact rfl)) | (apply og_pick; (apply op_pick (tt := tt); exact (rfl : _ = PV.bool _); (first | refine .inl ⟨by assumption, ?_⟩ | refine .inr ⟨by assumption, ?_⟩); (focus ((conv => lhs; whnf); try exact rfl)); exact ltn rfl)) | (apply og_load; (apply op_load tab; (focus ((conv => lhs; whnf; arg 1; whnf; arg 2; whnf); try skip)); (exact trivial); exact rfl)) | (apply og_callb; (first | (apply op_appendX tab; (focus ((conv => lhs; whnf); try exact rfl)); exact rfl; exact rfl; exact rfl; exact rfl; exact rfl; (focus ((conv => lhs; whnf); try exact rfl)); exact rfl; (simp only [List.length_map, List.length_append, List.length_cons, List.length_nil, List.length_take]; omega); (exact rfl); exact rfl) | (apply op_len tab; (focus ((conv => lhs; whnf; arg 1; whnf; arg 2; whnf); try exact rfl)); (exact trivial); exact rfl))) | (apply og_indexAddr; (refine op_indexMap (tI := 3) _ tab rfl (by (focus ((conv => lhs; whnf); try exact rfl))) (by (focus ((conv => lhs; whnf); try exact rfl))) rfl (by (omega)) (by (simp only [decide_eq_true_eq, decide_eq_false_iff_not, List.length_map, InR, ne_eq] at *; omega)) (by (focus ((conv => lhs; whnf); try exact rfl))) (ltn rfl) ?_)) | (apply og_buildSlice; (apply op_buildSliceX .ow tab; exact rfl; (focus ((repeat (apply opvs_cons; (focus ((conv => lhs; whnf); try exact rfl)))); exact opvs_nil)); exact rfl; exact rfl; exact rfl; exact rfl; exact rfl; exact rfl)) | (apply ops_nil))) | (apply og_sat; (first | (apply sat_seq) | (apply sat_region) | (apply sat_cond_f; exact rfl; (exact rfl)) | (apply sat_cond; exact (rfl : _ = PV.bool _); all_goals intro hb) | (apply sat_skip) | (apply sat_ret) | (apply sat_block) | (apply sat_exit))) | (apply pe_norm) | (apply pb_norm) | (apply pe_exit) | (apply pb_same))
    · have hl : livesP j live = true := by rw [livesP_nat]; simp_all
      have hlt' := of_decide_eq_true (p := (j : Int) < vol.tmod nodes) ‹_›
      refine ⟨j + 1, by omega, by omega, ?_, rfl⟩
      rw [hs, hl]
      (repeat' (first | exact trivial | exact Wk.same _ | (refine Wk.eq ?_; (conv => rhs; whnf); simp <;> fail) | refine ⟨?_, ?_⟩))
    · have hl : livesP j live = false := by rw [livesP_nat]; simp_all
      have hlt' := of_decide_eq_true (p := (j : Int) < vol.tmod nodes) ‹_›
      refine ⟨j + 1, by omega, by omega, ?_, rfl⟩
      rw [hs, hl]
      (repeat' (first | exact trivial | exact Wk.same _ | (refine Wk.eq ?_; (conv => rhs; whnf); simp <;> fail) | refine ⟨?_, ?_⟩))
    · have hl : livesP j live = false := by rw [livesP_nat]; simp_all
      have hlt' := of_decide_eq_true (p := (j : Int) < vol.tmod nodes) ‹_›
      refine ⟨j + 1, by omega, by omega, ?_, rfl⟩
      rw [hs, hl]
      (repeat' (first | exact trivial | exact Wk.same _ | (refine Wk.eq ?_; (conv => rhs; whnf); simp <;> fail) | refine ⟨?_, ?_⟩))
    · (change fnPost _ _ _ _ _ _ _; apply fn_end1; (exact .inr rfl); exact rfl; (focus ((conv => lhs; whnf); try exact rfl)); exact Wk.same _; exact rfl; exact (List.append_nil _).symm; exact Nat.le_refl _; exact trivial; exact hso)
      have hlt' := of_decide_eq_false (p := (j : Int) < vol.tmod nodes) ‹_›
      have hjv : j = v := by omega
      have hr : ringP vol nodes live = liv live (List.range' v (n - v) ++ List.range v) := by
        rw [ring_nat live (by omega) (by omega) (by omega), hvv, Int.toNat_natCast, rot_eq v _ hvn, hnn]; rfl
      rw [hr, hjv]
      exact ⟨rfl, rfl⟩

end Go.Proofs.Ytilfahfadlijcaa.Pv
