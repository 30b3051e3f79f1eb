/- Rows of texts compared. -/
import Derived.Test.YtecleclpakiocaaEq
import Derived.Test.YtecleclpakiocaaPvZj
namespace Go.Proofs.Ytecleclpakiocaa.Pv
open Go
set_option linter.unusedVariables false
set_option linter.unusedSimpArgs false
set_option maxRecDepth 100000

theorem take_allL {α : Type} (xs ys : List α) (hl : xs.length = ys.length) (h : xs.take xs.length = ys.take xs.length) : xs = ys := by
  rw [List.take_length, hl, List.take_length] at h; exact h

theorem same_sat (xs ys : List ByteArray) (hx : xs.length ≤ 9223372036854775807) (σ : Sto) : SatCall Try.prog 15 [.sl .sh 1 (xs.map PV.str), .sl .sh 1 (ys.map PV.str)] σ fun x σ' => x = .bool (decide (xs = ys)) ∧ σ' = σ := by
  refine sat_fn tab Try.func15 rfl (Nat.le_of_ble_eq_true rfl) (by decide) fun hso => ?_
  by_cases hl : xs.length = ys.length
  · have hc : (((xs.map PV.str).length : Int) != ((ys.map PV.str).length : Int)) = false := by simp [hl]
    repeat' (first | (apply og_ops; (first | (apply og_move; (apply op_move (tt := tt); (focus ((conv => lhs; whnf); try exact rfl)); exact rfl)) | (apply og_assign; (apply op_assign (tt := tt); (focus ((conv => lhs; whnf); try exact rfl)); exact rfl)) | (apply og_bin; (apply op_bin true tab; (focus ((conv => lhs; whnf; arg 1; whnf; arg 2; whnf); try exact rfl)); (exact trivial); exact rfl)) | (apply og_callb; (apply op_len tab; (focus ((conv => lhs; whnf; arg 1; whnf; arg 2; whnf); try exact rfl)); (exact trivial); exact rfl)) | (apply ops_nil))) | (apply og_sat; (first | (apply sat_seq) | (apply sat_region) | (apply sat_cond_f; exact rfl; (assumption)) | (apply sat_skip) | (apply sat_block))) | (apply pe_norm))
    refine sat_loopW (fun i : Nat => [(0, .sl .sh 1 (xs.map PV.str)), (1, .sl .sh 1 (ys.map PV.str)), (5, .int .i64 i)]) (fun _ => σ) (fun i => i ≤ xs.length ∧ xs.take i = ys.take i) (fun i => xs.length - i) 0 ⟨Nat.zero_le _, rfl⟩ ?_ rfl ?_
    · (repeat' (first | exact trivial | exact Wk.same _ | refine ⟨?_, ?_⟩))
    rintro i ⟨hi, ht⟩
    by_cases hil : i < xs.length
    · have c1 : decide ((i : Int) < ((xs.map PV.str).length : Int)) = true := by simp; omega
      by_cases he : xs.getD i default = ys.getD i default
      · have c2 : (!beqS (xs.getD ((i : Nat) : Int).toNat default) (ys.getD ((i : Nat) : Int).toNat default)) = false := by rw [Int.toNat_natCast, he, beqS_iff.2 rfl]; rfl
        repeat' (first | (apply og_ops; (first | (apply og_move; (apply op_move (tt := tt); (focus ((conv => lhs; whnf); try exact rfl)); exact rfl)) | (apply og_assign; (apply op_assign (tt := tt); (focus ((conv => lhs; whnf); try exact rfl)); exact rfl)) | (apply og_bin; (apply op_bin true tab; (focus ((conv => lhs; whnf; arg 1; whnf; arg 2; whnf); try exact rfl)); (first | exact trivial | (simp only [InR]; omega)); exact rfl)) | (apply og_callb; (apply op_len tab; (focus ((conv => lhs; whnf; arg 1; whnf; arg 2; whnf); try exact rfl)); (exact trivial); exact rfl)) | (apply ops_nil))) | (apply og_sat; (first | (apply sat_seq) | (apply sat_region) | (apply sat_cond_t; exact rfl; (assumption)) | (apply sat_cond_f; exact rfl; (assumption)) | (apply sat_skip) | (apply sat_block) | (apply sat_drawC (k := 8); exact mixed; decide +kernel; decide +kernel))) | (apply pe_norm) | (apply pb_norm) | (apply og_dd; (first | (apply dd_lk; (first | (apply lg_indexAddr; exact lk_indexMap (tI := 3) _ tab rfl (by (focus ((conv => lhs; whnf); try exact rfl))) (by (focus ((conv => lhs; whnf); try exact rfl))) rfl (by (omega)) (by (omega)) (by (focus ((conv => lhs; whnf); try exact rfl)))) | (apply lg_move; (apply lk_move (tt := tt); (focus ((conv => lhs; whnf); try exact rfl)))) | (apply lg_load; (apply lk_load tab; (focus ((conv => lhs; whnf; arg 1; whnf; arg 2; whnf); try skip)); (exact trivial)))); exact rfl; exact rfl) | (apply dd_nil))))
        refine ⟨i + 1, ⟨by omega, ?_⟩, by omega, ?_, rfl⟩
        · rw [List.take_succ_eq_append_getElem hil, List.take_succ_eq_append_getElem (by omega), ht]
          have e1 : xs.getD i default = xs[i] := by simp [List.getD, hil]
          have e2 : ys.getD i default = ys[i] := by simp [List.getD, show i < ys.length by omega]
          rw [← e1, ← e2, he]
        · (repeat' (first | exact trivial | exact Wk.same _ | refine ⟨?_, ?_⟩))
      · have c2 : (!beqS (xs.getD ((i : Nat) : Int).toNat default) (ys.getD ((i : Nat) : Int).toNat default)) = true := by
          rw [Int.toNat_natCast]
          cases hb : beqS (xs.getD i default) (ys.getD i default) with
          | false => rfl
          | true => exact absurd (beqS_iff.1 hb) he
        repeat' (first | (apply og_ops; (first | (apply og_move; (apply op_move (tt := tt); (focus ((conv => lhs; whnf); try exact rfl)); exact rfl)) | (apply og_assign; (apply op_assign (tt := tt); (focus ((conv => lhs; whnf); try exact rfl)); exact rfl)) | (apply og_bin; (apply op_bin true tab; (focus ((conv => lhs; whnf; arg 1; whnf; arg 2; whnf); try exact rfl)); (exact trivial); exact rfl)) | (apply og_callb; (apply op_len tab; (focus ((conv => lhs; whnf; arg 1; whnf; arg 2; whnf); try exact rfl)); (exact trivial); exact rfl)) | (apply ops_nil))) | (apply og_sat; (first | (apply sat_seq) | (apply sat_region) | (apply sat_cond_t; exact rfl; (assumption)) | (apply sat_skip) | (apply sat_ret) | (apply sat_block) | (apply sat_drawC (k := 8); exact mixed; decide +kernel; decide +kernel))) | (apply pe_norm) | (apply pe_ret) | (apply pb_ret) | (apply og_dd; (first | (apply dd_lk; (first | (apply lg_indexAddr; exact lk_indexMap (tI := 3) _ tab rfl (by (focus ((conv => lhs; whnf); try exact rfl))) (by (focus ((conv => lhs; whnf); try exact rfl))) rfl (by (omega)) (by (omega)) (by (focus ((conv => lhs; whnf); try exact rfl)))) | (apply lg_move; (apply lk_move (tt := tt); (focus ((conv => lhs; whnf); try exact rfl)))) | (apply lg_load; (apply lk_load tab; (focus ((conv => lhs; whnf; arg 1; whnf; arg 2; whnf); try skip)); (exact trivial)))); exact rfl; exact rfl) | (apply dd_nil))))
        (change fnPost _ _ _ _ _ _ _; apply fn_endN; (exact .inr rfl); (focus (repeat' (first | (apply rr_tmp; (focus ((conv => lhs; whnf); try exact rfl)); (exact Wk.same _)) | exact rr_nil))); exact rfl; (exact (List.append_nil _).symm); exact Nat.le_refl _; (focus (repeat' (first | exact trivial | refine ⟨?_, ?_⟩))); exact hso)
        have : ¬ xs = ys := fun e => by subst e; exact he rfl
        exact ⟨by rw [decide_eq_false this]; rfl, rfl⟩
    · have c1 : decide ((i : Int) < ((xs.map PV.str).length : Int)) = false := by simp; omega
      repeat' (first | (apply og_ops; (first | (apply og_move; (apply op_move (tt := tt); (focus ((conv => lhs; whnf); try exact rfl)); exact rfl)) | (apply og_assign; (apply op_assign (tt := tt); (focus ((conv => lhs; whnf); try exact rfl)); exact rfl)) | (apply og_bin; (apply op_bin true tab; (focus ((conv => lhs; whnf; arg 1; whnf; arg 2; whnf); try exact rfl)); (exact trivial); exact rfl)) | (apply og_callb; (apply op_len tab; (focus ((conv => lhs; whnf; arg 1; whnf; arg 2; whnf); try exact rfl)); (exact trivial); exact rfl)) | (apply ops_nil))) | (apply og_sat; (first | (apply sat_seq) | (apply sat_region) | (apply sat_cond_f; exact rfl; (assumption)) | (apply sat_ret) | (apply sat_exit))) | (apply pe_norm) | (apply pe_exit) | (apply pb_same))
      (change fnPost _ _ _ _ _ _ _; apply fn_endN; (exact .inr rfl); (focus (repeat' (first | (apply rr_tmp; (focus ((conv => lhs; whnf); try exact rfl)); (exact Wk.same _)) | exact rr_nil))); exact rfl; (exact (List.append_nil _).symm); exact Nat.le_refl _; (focus (repeat' (first | exact trivial | refine ⟨?_, ?_⟩))); exact hso)
      have : i = xs.length := by omega
      subst this
      have := take_allL xs ys hl ht
      exact ⟨by rw [decide_eq_true this]; rfl, rfl⟩
  · have hc : (((xs.map PV.str).length : Int) != ((ys.map PV.str).length : Int)) = true := by simp; omega
    repeat' (first | (apply og_ops; (first | (apply og_move; (apply op_move (tt := tt); (focus ((conv => lhs; whnf); try exact rfl)); exact rfl)) | (apply og_assign; (apply op_assign (tt := tt); (focus ((conv => lhs; whnf); try exact rfl)); exact rfl)) | (apply og_bin; (apply op_bin true tab; (focus ((conv => lhs; whnf; arg 1; whnf; arg 2; whnf); try exact rfl)); (exact trivial); exact rfl)) | (apply og_callb; (apply op_len tab; (focus ((conv => lhs; whnf; arg 1; whnf; arg 2; whnf); try exact rfl)); (exact trivial); exact rfl)) | (apply ops_nil))) | (apply og_sat; (first | (apply sat_seq) | (apply sat_region) | (apply sat_cond_t; exact rfl; (assumption)) | (apply sat_ret))) | (apply pe_norm) | (apply pe_ret))
    (change fnPost _ _ _ _ _ _ _; apply fn_endN; (exact .inr rfl); (focus (repeat' (first | (apply rr_tmp; (focus ((conv => lhs; whnf); try exact rfl)); (exact Wk.same _)) | exact rr_nil))); exact rfl; (exact (List.append_nil _).symm); exact Nat.le_refl _; (focus (repeat' (first | exact trivial | refine ⟨?_, ?_⟩))); exact hso)
    have : ¬ xs = ys := fun e => hl (congrArg List.length e)
    exact ⟨by rw [decide_eq_false this]; rfl, rfl⟩

end Go.Proofs.Ytecleclpakiocaa.Pv
