/- The law SiteAll: the walk. -/
import Derived.Test.YtilfahfadlijcaaSiteD
namespace Go.Proofs.Ytilfahfadlijcaa.Pv
open Go
set_option linter.unusedVariables false
set_option linter.unusedSimpArgs false
set_option maxRecDepth 100000

theorem lawlives_sat (n : Int) (live : List Bool) (σ : Sto) : SatCall Try.prog 11 [.int .i64 n, .sl .sh 1 (live.map .bool)] σ fun x σ' => x = .bool (livesP n live) ∧ σ' = σ := by
  refine sat_fn tab Try.func11 rfl (Nat.le_of_ble_eq_true rfl) (by decide) fun hso => ?_
  repeat' (first | (apply og_ops; (first | (apply og_guard; (first | (apply ops_guard_t; exact (rfl : _ = some _); exact (rfl : _ = PV.bool _); (assumption)) | (apply ops_guard_f'; exact (rfl : _ = some _); exact (rfl : _ = PV.bool _); (first | exact rfl | assumption); exact ltn rfl) | (apply ops_gsplit; exact (rfl : _ = some _); exact (rfl : _ = PV.bool _); all_goals intro hb))) | (apply og_move; (apply op_move (tt := tt); (focus ((conv => lhs; whnf); try exact rfl)); exact rfl)) | (apply og_assign; (apply op_assign (tt := tt); (focus ((conv => lhs; whnf); try exact rfl)); exact rfl)) | (apply og_bin; (apply op_bin true tab; (focus ((conv => lhs; whnf; arg 1; whnf; arg 2; whnf); try exact rfl)); (exact trivial); exact rfl)) | (apply og_pick; (apply op_pick (tt := tt); exact (rfl : _ = PV.bool _); (first | refine .inr ⟨rfl, ?_⟩ | refine .inl ⟨by assumption, ?_⟩ | refine .inr ⟨by assumption, ?_⟩); (focus ((conv => lhs; whnf); try exact rfl)); exact ltn rfl)) | (apply og_load; (apply op_load tab; (focus ((conv => lhs; whnf; arg 1; whnf; arg 2; whnf); try skip)); (exact trivial); exact rfl)) | (apply og_callb; (apply op_len tab; (focus ((conv => lhs; whnf; arg 1; whnf; arg 2; whnf); try exact rfl)); (exact trivial); exact rfl)) | (apply og_indexAddr; (refine op_indexMap (tI := 3) _ tab rfl (by (focus ((conv => lhs; whnf); try exact rfl))) (by (focus ((conv => lhs; whnf); try exact rfl))) rfl (by (simp only [decide_eq_true_eq, decide_eq_false_iff_not, List.length_map, InR, ne_eq] at *; omega)) (by (simp only [decide_eq_true_eq, decide_eq_false_iff_not, List.length_map, InR, ne_eq] at *; omega)) (by (focus ((conv => lhs; whnf); try exact rfl))) (ltn rfl) ?_)) | (apply ops_nil))) | (apply og_sat; (first | (apply sat_seq) | (apply sat_region) | (apply sat_ret))) | (apply pe_norm))
  all_goals (change fnPost _ _ _ _ _ _ _; apply fn_end1; (exact .inr rfl); exact rfl; (focus ((conv => lhs; whnf); try exact rfl)); exact Wk.same _; exact rfl; exact (List.append_nil _).symm; exact Nat.le_refl _; exact trivial; exact hso)
  all_goals refine ⟨?_, rfl⟩
  all_goals simp only [decide_eq_true_eq, decide_eq_false_iff_not, List.length_map] at *
  all_goals simp [livesP, *] <;> omega

def cnt (live : List Bool) (n : Nat) : Nat := ((List.range n).filter fun i : Nat => livesP i live).length
theorem cnt_succ (live : List Bool) (n : Nat) : cnt live (n + 1) = cnt live n + if livesP n live then 1 else 0 := by
  simp only [cnt, List.range_succ, List.filter_append, List.length_append]
  cases h : livesP n live <;> simp [h]
theorem cnt_le (live : List Bool) (n : Nat) : cnt live n ≤ n := by
  have := List.length_filter_le (fun i : Nat => livesP i live) (List.range n)
  rw [List.length_range] at this
  exact this

theorem count_take_succ (xs : List Int) (v : Int) (i : Nat) (h : i < xs.length) : (xs.take (i + 1)).count v = (xs.take i).count v + if xs.getD i default == v then 1 else 0 := by
  rw [List.take_succ_eq_append_getElem h, List.count_append, List.count_singleton]
  have : xs.getD i default = xs[i] := by simp [List.getD, h]
  rw [this]

theorem siteAll_sat (vol nodes : Int) (live : List Bool) (σ : Sto)
    (L1 : 0 ≤ vol → 1 ≤ nodes → nodes ≤ 64 → ∀ n : Nat, (n : Int) < nodes → livesP n live = true → (ringP vol nodes live).count (n : Int) = 1)
    (L2 : 0 ≤ vol → 1 ≤ nodes → nodes ≤ 64 → (ringP vol nodes live).length = cnt live nodes.toNat)
    (L3 : 0 ≤ vol → 1 ≤ nodes → nodes ≤ 64 → livesP (vol.tmod nodes) live = true → ∃ r, ringP vol nodes live = vol.tmod nodes :: r) :
    SatCall Try.prog 3 [.int .i64 vol, .int .i64 nodes, .sl .sh 1 (live.map .bool)] σ fun x σ' => x = .bool true ∧ σ' = σ := by
  refine sat_fn tab Try.func3 rfl (Nat.le_of_ble_eq_true rfl) (by decide) fun hso => ?_
  repeat' (first | (apply og_ops; (first | (apply og_guard; (first | (apply ops_guard_t; exact (rfl : _ = some _); exact (rfl : _ = PV.bool _); (first | exact rfl | assumption)) | (apply ops_guard_f'; exact (rfl : _ = some _); exact (rfl : _ = PV.bool _); (first | exact rfl | assumption); exact ltn rfl) | (apply ops_gsplit; exact (rfl : _ = some _); exact (rfl : _ = PV.bool _); all_goals intro hb))) | (apply og_move; (apply op_move (tt := tt); (focus ((conv => lhs; whnf); try exact rfl)); exact rfl)) | (apply og_assign; (first | (apply op_take (.inl rfl); (focus ((conv => lhs; whnf); try exact rfl)); exact rfl; exact ltn rfl) | (apply op_assign (tt := tt); (focus ((conv => lhs; whnf); try exact rfl)); exact rfl))) | (apply og_callv; (first | (refine op_callP (tt := tt) cal9 (shown_sat _) rfl rfl rfl rfl rfl ?_) | (refine op_callP (tt := tt) cal10 (Ring_sat _ _ _ _) rfl rfl rfl rfl rfl ?_))) | (apply og_bin; (apply op_bin true tab; (focus ((conv => lhs; whnf; arg 1; whnf; arg 2; whnf); try exact rfl)); (exact trivial); exact rfl)) | (apply og_pick; (apply op_pick (tt := tt); exact (rfl : _ = PV.bool _); (first | refine .inl ⟨rfl, ?_⟩ | refine .inl ⟨by assumption, ?_⟩ | refine .inr ⟨by assumption, ?_⟩); (focus ((conv => lhs; whnf); try exact rfl)); exact ltn rfl)) | (apply og_callb; (apply op_len tab; (focus ((conv => lhs; whnf; arg 1; whnf; arg 2; whnf); try exact rfl)); (exact trivial); exact rfl)) | (apply ops_nil))) | (apply og_sat; (first | (apply sat_seq) | (apply sat_region) | (apply sat_cond_t; exact rfl; (exact rfl)) | (apply sat_cond; exact (rfl : _ = PV.bool _); all_goals intro hb) | (apply sat_skip) | (apply sat_ret) | (apply sat_block))) | (apply pe_norm) | (apply pe_ret))
  · (change fnPost _ _ _ _ _ _ _; apply fn_end1; (exact .inr rfl); exact rfl; (focus ((conv => lhs; whnf); try exact rfl)); exact Wk.same _; exact rfl; exact (List.append_nil _).symm; exact Nat.le_refl _; exact trivial; exact hso)
    have : ringP vol nodes live = [] := by simp only [ringP]; rw [if_pos (.inl (of_decide_eq_true ‹_›))]
    exact ⟨by rw [this]; rfl, rfl⟩
  · (change fnPost _ _ _ _ _ _ _; apply fn_end1; (exact .inr rfl); exact rfl; (focus ((conv => lhs; whnf); try exact rfl)); exact Wk.same _; exact rfl; exact (List.append_nil _).symm; exact Nat.le_refl _; exact trivial; exact hso)
    have : ringP vol nodes live = [] := by simp only [ringP]; rw [if_pos (.inr (by have := of_decide_eq_true (p := nodes < 1) ‹_›; omega))]
    exact ⟨by rw [this]; rfl, rfl⟩
  · (change fnPost _ _ _ _ _ _ _; apply fn_end1; (exact .inr rfl); exact rfl; (focus ((conv => lhs; whnf); try exact rfl)); exact Wk.same _; exact rfl; exact (List.append_nil _).symm; exact Nat.le_refl _; exact trivial; exact hso)
    have : ringP vol nodes live = [] := by simp only [ringP]; rw [if_pos (.inr (by have := of_decide_eq_true (p := 64 < nodes) ‹_›; omega))]
    exact ⟨by rw [this]; rfl, rfl⟩
  · have hv := of_decide_eq_false (p := vol < 0) ‹_›
    have hn1 := of_decide_eq_false (p := nodes < 1) ‹_›
    have hn2 := of_decide_eq_false (p := 64 < nodes) ‹_›
    have L1 := L1 (by omega) (by omega) (by omega)
    have L2 := L2 (by omega) (by omega) (by omega)
    have L3 := L3 (by omega) (by omega) (by omega)
    have hlen := ringP_len vol nodes live
    generalize ringP vol nodes live = xs at L1 L2 L3 hlen ⊢
    refine sat_loopW (fun n : Nat => [(0, .int .i64 vol), (1, .int .i64 nodes), (2, .sl .sh 1 (live.map .bool)), (7, .bool true), (8, .sl .sh 1 (xs.map (.int .i64))), (9, .int .i64 (cnt live n)), (10, .int .i64 n)]) (fun _ => σ) (fun n => n ≤ nodes.toNat) (fun n => nodes.toNat - n) 0
      (Nat.zero_le _) ?_ rfl ?_
    · (repeat' (first | exact trivial | exact Wk.same _ | exact Wk.sh | refine ⟨?_, ?_⟩))
    intro n hn
    have hc := cnt_le live n
    repeat' (first | (apply og_ops; (first | (apply og_move; (apply op_move (tt := tt); (focus ((conv => lhs; whnf); try exact rfl)); exact rfl)) | (apply og_assign; (apply op_assign (tt := tt); (focus ((conv => lhs; whnf); try exact rfl)); exact rfl)) | (apply og_bin; (apply op_bin true tab; (focus ((conv => lhs; whnf; arg 1; whnf; arg 2; whnf); try exact rfl)); (first | exact trivial | omega); exact rfl)) | (apply ops_nil))) | (apply og_sat; (first | (apply sat_seq) | (apply sat_region) | (apply sat_cond; exact (rfl : _ = PV.bool _); all_goals intro hb) | (apply sat_skip) | (apply sat_block) | (apply sat_exit))) | (apply pe_norm) | (apply pe_exit) | (apply pb_same))
    · repeat' (first | (apply og_ops; (first | (apply og_move; (apply op_move (tt := tt); (focus ((conv => lhs; whnf); try exact rfl)); exact rfl)) | (apply og_assign; (apply op_assign (tt := tt); (focus ((conv => lhs; whnf); try exact rfl)); exact rfl)) | (apply og_callv; (refine op_callP (tt := tt) cal11 (lawlives_sat _ _ _) rfl rfl rfl rfl rfl ?_)) | (apply og_bin; (apply op_bin true tab; (focus ((conv => lhs; whnf; arg 1; whnf; arg 2; whnf); try exact rfl)); (simp only [InR]; omega); exact rfl)) | (apply og_un; (apply op_un (tt := tt) true; (focus ((conv => lhs; whnf; arg 1; whnf; arg 2; whnf); try exact rfl)); (exact trivial); exact rfl)) | (apply ops_nil))) | (apply og_sat; (first | (apply sat_seq) | (apply sat_region) | (apply sat_cond; exact (rfl : _ = PV.bool _); all_goals intro hb) | (apply sat_skip) | (apply sat_block) | (apply sat_exit))) | (apply pe_norm) | (apply pe_exit) | (apply pb_same))
      · have hlt := of_decide_eq_true (p := (n : Int) < nodes) ‹_›
        have hdead : livesP n live = false := by simpa using ‹(!livesP n live) = true›
        refine ⟨n + 1, by omega, by omega, ?_, rfl⟩
        have hcs : cnt live (n + 1) = cnt live n := by rw [cnt_succ, hdead]; rfl
        rw [hcs]
        (repeat' (first | exact trivial | exact Wk.same _ | refine ⟨?_, ?_⟩))
      · have hlt := of_decide_eq_true (p := (n : Int) < nodes) ‹_›
        have hlive : livesP n live = true := by simpa using ‹(!livesP n live) = false›
        have hcs : cnt live (n + 1) = cnt live n + 1 := by rw [cnt_succ, hlive]; rfl
        have hone := L1 n hlt hlive
        refine sat_loopW (fun i : Nat => [(0, .int .i64 vol), (1, .int .i64 nodes), (2, .sl .sh 1 (live.map .bool)), (7, .bool true), (8, .sl .sh 1 (xs.map (.int .i64))), (9, .int .i64 (cnt live (n + 1))), (10, .int .i64 n), (12, .int .i64 ((xs.take i).count (n : Int) : Nat)), (13, .int .i64 i)]) (fun _ => σ) (fun i => i ≤ xs.length) (fun i => xs.length - i) 0
          (Nat.zero_le _) ?_ rfl ?_
        · rw [hcs]
          (repeat' (first | exact trivial | exact Wk.same _ | refine ⟨?_, ?_⟩))
        intro i hi
        have hct : (xs.take i).count (n : Int) ≤ i := Nat.le_trans List.count_le_length (by simp; omega)
        repeat' (first | (apply og_ops; (first | (apply og_move; (apply op_move (tt := tt); (focus ((conv => lhs; whnf); try exact rfl)); exact rfl)) | (apply og_assign; (apply op_assign (tt := tt); (focus ((conv => lhs; whnf); try exact rfl)); exact rfl)) | (apply og_bin; (apply op_bin true tab; (focus ((conv => lhs; whnf; arg 1; whnf; arg 2; whnf); try exact rfl)); (first | exact trivial | (simp only [InR]; omega)); exact rfl)) | (apply og_load; (apply op_load tab; (focus ((conv => lhs; whnf; arg 1; whnf; arg 2; whnf); try skip)); (exact trivial); exact rfl)) | (apply og_callb; (apply op_len tab; (focus ((conv => lhs; whnf; arg 1; whnf; arg 2; whnf); try exact rfl)); (exact trivial); exact rfl)) | (apply og_indexAddr; (refine op_indexMap (tI := 3) _ tab rfl (by (focus ((conv => lhs; whnf); try exact rfl))) (by (focus ((conv => lhs; whnf); try exact rfl))) rfl (by (omega)) (by (simp only [decide_eq_true_eq, decide_eq_false_iff_not, List.length_map, InR, ne_eq] at *; omega)) (by (focus ((conv => lhs; whnf); try exact rfl))) (ltn rfl) ?_)) | (apply ops_nil))) | (apply og_sat; (first | (apply sat_seq) | (apply sat_region) | (apply sat_cond; exact (rfl : _ = PV.bool _); all_goals intro hb) | (apply sat_skip) | (apply sat_ret) | (apply sat_block) | (apply sat_exit))) | (apply pe_norm) | (apply pe_ret) | (apply pb_norm) | (apply pb_ret) | (apply pe_exit) | (apply pb_same))
        · have hil : i < xs.length := by have := of_decide_eq_true (p := (i : Int) < ((xs.map (PV.int .i64)).length : Int)) ‹_›; rw [List.length_map] at this; omega
          have hst := count_take_succ xs n i hil
          have hhit : (xs.getD i default == (n : Int)) = true := ‹_›
          rw [hhit] at hst
          refine ⟨i + 1, by omega, by omega, ?_, rfl⟩
          rw [hst]
          (repeat' (first | exact trivial | exact Wk.same _ | refine ⟨?_, ?_⟩))
        · have hil : i < xs.length := by have := of_decide_eq_true (p := (i : Int) < ((xs.map (PV.int .i64)).length : Int)) ‹_›; rw [List.length_map] at this; omega
          have hst := count_take_succ xs n i hil
          have hhit : (xs.getD i default == (n : Int)) = false := ‹_›
          rw [hhit] at hst
          refine ⟨i + 1, by omega, by omega, ?_, rfl⟩
          rw [hst]
          (repeat' (first | exact trivial | exact Wk.same _ | refine ⟨?_, ?_⟩))
        · exfalso
          have hil := of_decide_eq_false (p := (i : Int) < ((xs.map (PV.int .i64)).length : Int)) ‹_›
          rw [List.length_map] at hil
          have hb' : (((xs.take i).count (n : Int) : Nat) : Int) ≠ 1 := by simpa using ‹((((xs.take i).count (n : Int) : Nat) : Int) != 1) = true›
          rw [List.take_of_length_le (by omega), hone] at hb'
          exact hb' rfl
        · refine ⟨n + 1, by omega, by omega, ?_, rfl⟩
          (repeat' (first | exact trivial | exact Wk.same _ | refine ⟨?_, ?_⟩))
    · have hlt := of_decide_eq_false (p := (n : Int) < nodes) ‹_›
      have hnn : n = nodes.toNat := by omega
      have hcx : ((xs.map (PV.int .i64)).length : Int) = (cnt live n : Int) := by rw [List.length_map, L2, hnn]
      cases hfl : livesP (vol.tmod nodes) live
      · repeat' (first | (apply og_ops; (first | (apply og_guard; (first | (apply ops_guard_t; exact (rfl : _ = some _); exact (rfl : _ = PV.bool _); (first | exact rfl | assumption)) | (apply ops_guard_u; exact (rfl : _ = some _); exact rfl; exact ltn rfl) | (apply ops_guard_f'; exact (rfl : _ = some _); exact (rfl : _ = PV.bool _); (assumption); exact ltn rfl) | (apply ops_gsplit; exact (rfl : _ = some _); exact (rfl : _ = PV.bool _); all_goals intro hb))) | (apply og_move; (apply op_move (tt := tt); (focus ((conv => lhs; whnf); try exact rfl)); exact rfl)) | (apply og_assign; (apply op_assign (tt := tt); (focus ((conv => lhs; whnf); try exact rfl)); exact rfl)) | (apply og_callv; (refine op_callP (tt := tt) cal11 (lawlives_sat _ _ _) rfl rfl rfl rfl rfl ?_)) | (apply og_bin; (apply op_bin true tab; (focus ((conv => lhs; whnf; arg 1; whnf; arg 2; whnf); try exact rfl)); (exact trivial); exact rfl)) | (apply og_pick; (apply op_pick (tt := tt); exact (rfl : _ = PV.bool _); (first | refine .inl ⟨rfl, ?_⟩ | refine .inl ⟨by assumption, ?_⟩ | refine .inr ⟨by assumption, ?_⟩); (focus ((conv => lhs; whnf); try exact rfl)); exact ltn rfl)) | (apply og_load; (apply op_load tab; (focus ((conv => lhs; whnf; arg 1; whnf; arg 2; whnf); try skip)); (exact trivial); exact rfl)) | (apply og_callb; (apply op_len tab; (focus ((conv => lhs; whnf; arg 1; whnf; arg 2; whnf); try exact rfl)); (exact trivial); exact rfl)) | (apply og_indexAddr; (refine op_indexMap (tI := 3) _ tab rfl (by (focus ((conv => lhs; whnf); try exact rfl))) (by (focus ((conv => lhs; whnf); try exact rfl))) rfl (by (omega)) (by (exfalso; simp_all; done)) (by (focus ((conv => lhs; whnf); try exact rfl))) (ltn rfl) ?_)) | (apply og_un; (apply op_un (tt := tt) true; (focus ((conv => lhs; whnf; arg 1; whnf; arg 2; whnf); try exact rfl)); (exact trivial); exact rfl)) | (apply ops_nil))) | (apply og_sat; (first | (apply sat_seq) | (apply sat_region) | (apply sat_ret))) | (apply pe_norm))
        all_goals (change fnPost _ _ _ _ _ _ _; apply fn_end1; (exact .inr rfl); exact rfl; (focus ((conv => lhs; whnf); try exact rfl)); exact Wk.same _; exact rfl; exact (List.append_nil _).symm; exact Nat.le_refl _; exact trivial; exact hso)
        all_goals (simp_all; try rfl)
      · obtain ⟨r, rfl⟩ := L3 hfl
        repeat' (first | (apply og_ops; (first | (apply og_guard; (first | (apply ops_guard_t; exact (rfl : _ = some _); exact (rfl : _ = PV.bool _); (first | exact rfl | assumption)) | (apply ops_guard_u; exact (rfl : _ = some _); exact rfl; exact ltn rfl) | (apply ops_guard_f'; exact (rfl : _ = some _); exact (rfl : _ = PV.bool _); (assumption); exact ltn rfl) | (apply ops_gsplit; exact (rfl : _ = some _); exact (rfl : _ = PV.bool _); all_goals intro hb))) | (apply og_move; (apply op_move (tt := tt); (focus ((conv => lhs; whnf); try exact rfl)); exact rfl)) | (apply og_assign; (apply op_assign (tt := tt); (focus ((conv => lhs; whnf); try exact rfl)); exact rfl)) | (apply og_callv; (refine op_callP (tt := tt) cal11 (lawlives_sat _ _ _) rfl rfl rfl rfl rfl ?_)) | (apply og_bin; (apply op_bin true tab; (focus ((conv => lhs; whnf; arg 1; whnf; arg 2; whnf); try exact rfl)); (exact trivial); exact rfl)) | (apply og_pick; (apply op_pick (tt := tt); exact (rfl : _ = PV.bool _); (first | refine .inl ⟨rfl, ?_⟩ | refine .inl ⟨by assumption, ?_⟩ | refine .inr ⟨by assumption, ?_⟩); (focus ((conv => lhs; whnf); try exact rfl)); exact ltn rfl)) | (apply og_load; (apply op_load tab; (focus ((conv => lhs; whnf; arg 1; whnf; arg 2; whnf); try skip)); (exact trivial); exact rfl)) | (apply og_callb; (apply op_len tab; (focus ((conv => lhs; whnf; arg 1; whnf; arg 2; whnf); try exact rfl)); (exact trivial); exact rfl)) | (apply og_indexAddr; (refine op_indexMap (tI := 3) _ tab rfl (by (focus ((conv => lhs; whnf); try exact rfl))) (by (focus ((conv => lhs; whnf); try exact rfl))) rfl (by (omega)) (by (simp only [List.length_map, List.length_cons, List.length_append, List.length_nil]; omega)) (by (focus ((conv => lhs; whnf); try exact rfl))) (ltn rfl) ?_)) | (apply og_un; (apply op_un (tt := tt) true; (focus ((conv => lhs; whnf; arg 1; whnf; arg 2; whnf); try exact rfl)); (exact trivial); exact rfl)) | (apply ops_nil))) | (apply og_sat; (first | (apply sat_seq) | (apply sat_region) | (apply sat_ret))) | (apply pe_norm))
        all_goals (change fnPost _ _ _ _ _ _ _; apply fn_end1; (exact .inr rfl); exact rfl; (focus ((conv => lhs; whnf); try exact rfl)); exact Wk.same _; exact rfl; exact (List.append_nil _).symm; exact Nat.le_refl _; exact trivial; exact hso)
        all_goals (simp_all; try rfl)

end Go.Proofs.Ytilfahfadlijcaa.Pv
