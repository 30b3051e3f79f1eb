/- Rows of places compared. -/
import Derived.Test.YtilfahfadlijcaaSiteG
import Derived.Test.YtilfahfadlijcaaEq
namespace Go.Proofs.Ytilfahfadlijcaa.Pv
open Go
set_option linter.unusedVariables false
set_option linter.unusedSimpArgs false
set_option maxRecDepth 100000

/-- A place: its region, its node. -/
def plc (p : Int × Int) : PV := .agg [.int .i64 p.1, .int .i64 p.2]

theorem take_allP (xs ys : List (Int × Int)) (hl : xs.length = ys.length) (h : xs.take xs.length = ys.take xs.length) : xs = ys := by
  rw [List.take_length, hl, List.take_length] at h; exact h

theorem places_sat (xs ys : List (Int × Int)) (hx : xs.length ≤ 1000000) (σ : Sto) : SatCall Try.prog 17 [.sl .sh 2 (xs.map plc), .sl .sh 2 (ys.map plc)] σ fun x σ' => x = .bool (decide (xs = ys)) ∧ σ' = σ := by
  refine sat_fn tab Try.func17 rfl (Nat.le_of_ble_eq_true rfl) (by decide) fun hso => ?_
  repeat' (first | (apply og_ops; (first | (apply og_move; (apply op_move (tt := tt); (focus ((conv => lhs; whnf); try exact rfl)); exact rfl)) | (apply og_assign; (apply op_assign (tt := tt); (focus ((conv => lhs; whnf); try exact rfl)); exact rfl)) | (apply og_bin; (apply op_bin true tab; (focus ((conv => lhs; whnf; arg 1; whnf; arg 2; whnf); try exact rfl)); (exact trivial); exact rfl)) | (apply og_callb; (apply op_len tab; (focus ((conv => lhs; whnf; arg 1; whnf; arg 2; whnf); try exact rfl)); (exact trivial); exact rfl)) | (apply ops_nil))) | (apply og_sat; (first | (apply sat_seq) | (apply sat_region) | (apply sat_cond; exact (rfl : _ = PV.bool _); all_goals intro hb) | (apply sat_skip) | (apply sat_ret) | (apply sat_block))) | (apply pe_norm) | (apply pe_ret))
  · (change fnPost _ _ _ _ _ _ _; apply fn_end1; (exact .inr rfl); exact rfl; (focus ((conv => lhs; whnf); try exact rfl)); exact Wk.same _; exact rfl; exact (List.append_nil _).symm; exact Nat.le_refl _; exact trivial; exact hso)
    have : ¬ xs = ys := fun e => by subst e; simp_all
    exact ⟨by simp [this], rfl⟩
  · have hl : xs.length = ys.length := by simp_all; omega
    refine sat_loopW (fun i : Nat => [(0, .sl .sh 2 (xs.map plc)), (1, .sl .sh 2 (ys.map plc)), (5, .int .i64 i)]) (fun _ => σ) (fun i => i ≤ xs.length ∧ xs.take i = ys.take i) (fun i => xs.length - i) 0 ⟨Nat.zero_le _, rfl⟩ ?_ rfl ?_
    · (repeat' (first | exact trivial | exact Wk.same _ | refine ⟨?_, ?_⟩))
    rintro i ⟨hi, ht⟩
    repeat' (first | (apply og_ops; (first | (apply og_move; (apply op_move (tt := tt); (focus ((conv => lhs; whnf); try exact rfl)); exact rfl)) | (apply og_assign; (apply op_assign (tt := tt); (focus ((conv => lhs; whnf); try exact rfl)); exact rfl)) | (apply og_bin; (first | (apply op_bin true tab; (focus ((conv => lhs; whnf; arg 1; whnf; arg 2; whnf); try exact rfl)); (first | exact trivial | (simp only [InR]; omega)); exact rfl) | (apply op_lk; (apply lk_neq tab eqok; exact rfl; exact rfl; (focus ((conv => lhs; whnf); try exact rfl)); (focus ((conv => lhs; whnf); try exact rfl)); exact rfl; exact rfl); (intro c h; cases h); exact rfl))) | (apply og_callb; (apply op_len tab; (focus ((conv => lhs; whnf; arg 1; whnf; arg 2; whnf); try exact rfl)); (exact trivial); exact rfl)) | (apply ops_nil))) | (apply og_sat; (first | (apply sat_seq) | (apply sat_region) | (apply sat_cond; exact (rfl : _ = PV.bool _); all_goals intro hb) | (apply sat_skip) | (apply sat_ret) | (apply sat_block) | (apply sat_exit) | (apply sat_drawC (k := 8); exact mixed; decide +kernel; decide +kernel))) | (apply pe_norm) | (apply pe_ret) | (apply pb_norm) | (apply pb_ret) | (apply pe_exit) | (apply pb_same) | (apply og_dd; (first | (apply dd_lk; (first | (apply lg_indexAddr; exact lk_indexMap (tI := 3) _ tab rfl (by (focus ((conv => lhs; whnf); try exact rfl))) (by (focus ((conv => lhs; whnf); try exact rfl))) rfl (by (omega)) (by (simp only [decide_eq_true_eq, decide_eq_false_iff_not, List.length_map, InR, ne_eq] at *; omega)) (by (focus ((conv => lhs; whnf); try exact rfl)))) | (apply lg_move; (apply lk_move (tt := tt); (focus ((conv => lhs; whnf); try exact rfl)))) | (apply lg_load; (apply lk_load tab; (focus ((conv => lhs; whnf; arg 1; whnf; arg 2; whnf); try skip)); (exact Nat.le_of_ble_eq_true rfl)))); exact rfl; exact rfl) | (apply dd_nil))))
    · (change fnPost _ _ _ _ _ _ _; apply fn_end1; (exact .inr rfl); exact rfl; (focus ((conv => lhs; whnf); try exact rfl)); exact Wk.same _; exact rfl; exact (List.append_nil _).symm; exact Nat.le_refl _; exact trivial; exact hso)
      have : ¬ xs = ys := fun e => by subst e; simp_all
      exact ⟨by simp [this], rfl⟩
    · have hil : i < xs.length := by have := of_decide_eq_true (p := (i : Int) < ((xs.map plc).length : Int)) ‹_›; rw [List.length_map] at this; omega
      have he : xs.getD i default = ys.getD i default := Prod.ext_iff.2 (by simpa using hb)
      refine ⟨i + 1, ⟨by omega, ?_⟩, by omega, ?_, rfl⟩
      · rw [List.take_succ_eq_append_getElem hil, List.take_succ_eq_append_getElem (by omega), ht]
        have e1 : xs.getD i default = xs[i] := by simp [List.getD, hil]
        have e2 : ys.getD i default = ys[i] := by simp [List.getD, show i < ys.length by omega]
        rw [← e1, ← e2, he]
      · (repeat' (first | exact trivial | exact Wk.same _ | refine ⟨?_, ?_⟩))
    · (change fnPost _ _ _ _ _ _ _; apply fn_end1; (exact .inr rfl); exact rfl; (focus ((conv => lhs; whnf); try exact rfl)); exact Wk.same _; exact rfl; exact (List.append_nil _).symm; exact Nat.le_refl _; exact trivial; exact hso)
      have hil := of_decide_eq_false (p := (i : Int) < ((xs.map plc).length : Int)) ‹_›
      rw [List.length_map] at hil
      have : i = xs.length := by omega
      subst this
      have := take_allP xs ys hl ht
      exact ⟨by simp [this], rfl⟩

end Go.Proofs.Ytilfahfadlijcaa.Pv
