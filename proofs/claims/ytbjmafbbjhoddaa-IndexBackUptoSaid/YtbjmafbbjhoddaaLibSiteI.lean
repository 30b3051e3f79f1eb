/- Package site: the third region; places compared, and searched. -/
import Derived.Test.YtbjmafbbjhoddaaTy
import Derived.Test.YtbjmafbbjhoddaaEq
import Derived.Test.YtbjmafbbjhoddaaPvM3
namespace Go.Proofs.Ytbjmafbbjhoddaa.Pv
open Go
set_option linter.unusedVariables false
set_option linter.unusedSimpArgs false
set_option maxRecDepth 100000

theorem region_sat (r : Int) (σ : Sto) : SatCall Try.prog 110 [.int .i64 r] σ fun x σ' => x = .bool (decide (1 ≤ r ∧ r ≤ 3)) ∧ σ' = σ := by
  refine sat_fn tab Try.func110 rfl (Nat.le_of_ble_eq_true rfl) (by decide) fun hso => ?_
  repeat' (first | (apply og_ops; (first | (apply og_guard; (first | (apply ops_guard_t; exact (rfl : _ = some _); exact (rfl : _ = PV.bool _); (assumption)) | (apply ops_guard_f'; exact (rfl : _ = some _); exact (rfl : _ = PV.bool _); (assumption); exact ltn rfl) | (apply ops_gsplit; exact (rfl : _ = some _); exact (rfl : _ = PV.bool _); all_goals intro hb))) | (apply og_move; (apply op_move (tt := tt); (focus ((conv => lhs; whnf); try exact rfl)); exact rfl)) | (apply og_assign; (apply op_assign (tt := tt); (focus ((conv => lhs; whnf); try exact rfl)); exact rfl)) | (apply og_bin; (apply op_bin true tab; (focus ((conv => lhs; whnf; arg 1; whnf; arg 2; whnf); try exact rfl)); (exact trivial); exact rfl)) | (apply og_pick; (apply op_pick (tt := tt); exact (rfl : _ = PV.bool _); (first | refine .inl ⟨by assumption, ?_⟩ | refine .inr ⟨by assumption, ?_⟩); (focus ((conv => lhs; whnf); try exact rfl)); exact ltn rfl)) | (apply ops_nil))) | (apply og_sat; (first | (apply sat_seq) | (apply sat_region) | (apply sat_ret))) | (apply pe_norm))
  all_goals (change fnPost _ _ _ _ _ _ _; apply fn_end1; (exact .inr rfl); exact rfl; (focus ((conv => lhs; whnf); try exact rfl)); exact Wk.same _; exact rfl; exact (List.append_nil _).symm; exact Nat.le_refl _; exact trivial; exact hso)
  all_goals exact ⟨by first | (simp_all; done) | (simp_all; omega), rfl⟩

def thirdP (a b : Int) : Int × Int := if (1 ≤ a ∧ a ≤ 3) ∧ (1 ≤ b ∧ b ≤ 3) ∧ a ≠ b then (6 - a - b, 0) else (0, 1)

theorem third_sat (a b : Int) (σ : Sto) : SatCall Try.prog 96 [.int .i64 a, .int .i64 b] σ fun x σ' => x = .tup [.int .i64 (thirdP a b).1, .int .i64 (thirdP a b).2] ∧ σ' = σ := by
  refine sat_fn tab Try.func96 rfl (Nat.le_of_ble_eq_true rfl) (by decide) fun hso => ?_
  repeat' (first | (apply og_ops; (first | (apply og_guard; (first | (apply ops_guard_t; exact (rfl : _ = some _); exact (rfl : _ = PV.bool _); (assumption)) | (apply ops_guard_f'; exact (rfl : _ = some _); exact (rfl : _ = PV.bool _); (first | exact rfl | assumption); exact ltn rfl) | (apply ops_gsplit; exact (rfl : _ = some _); exact (rfl : _ = PV.bool _); all_goals intro hb))) | (apply og_move; (apply op_move (tt := tt); (focus ((conv => lhs; whnf); try exact rfl)); exact rfl)) | (apply og_assign; (apply op_assign (tt := tt); (focus ((conv => lhs; whnf); try exact rfl)); exact rfl)) | (apply og_callv; (refine op_callP (tt := tt) cal110 (region_sat _ _) rfl rfl rfl rfl rfl ?_)) | (apply og_bin; (apply op_bin true tab; (focus ((conv => lhs; whnf; arg 1; whnf; arg 2; whnf); try exact rfl)); (first | exact trivial | (simp [InR] at *; omega)); exact rfl)) | (apply og_pick; (apply op_pick (tt := tt); exact (rfl : _ = PV.bool _); (first | refine .inl ⟨rfl, ?_⟩ | refine .inl ⟨by assumption, ?_⟩ | refine .inr ⟨by assumption, ?_⟩); (focus ((conv => lhs; whnf); try exact rfl)); exact ltn rfl)) | (apply og_un; (apply op_un (tt := tt) true; (focus ((conv => lhs; whnf; arg 1; whnf; arg 2; whnf); try exact rfl)); (exact trivial); exact rfl)) | (apply ops_nil))) | (apply og_sat; (first | (apply sat_seq) | (apply sat_region) | (apply sat_cond_t; exact rfl; (exact rfl)) | (apply sat_cond; exact (rfl : _ = PV.bool _); all_goals intro hb) | (apply sat_skip) | (apply sat_ret))) | (apply pe_norm) | (apply pe_ret))
  all_goals (change fnPost _ _ _ _ _ _ _; apply fn_end2; (exact .inr rfl); exact rfl; (focus ((conv => lhs; whnf); try exact rfl)); (focus ((conv => lhs; whnf); try exact rfl)); exact Wk.same _; exact Wk.same _; exact rfl; exact rfl; exact (List.append_nil _).symm; exact Nat.le_refl _; exact trivial; exact trivial; exact hso)
  all_goals refine ⟨?_, rfl⟩
  all_goals simp only [decide_eq_true_eq, decide_eq_false_iff_not, Bool.not_eq_true', Bool.not_eq_false', beq_iff_eq, beq_eq_false_iff_ne, ne_eq] at *
  · rw [thirdP, if_neg (fun h => by omega)]
  · rw [thirdP, if_neg (fun h => by omega)]
  · rw [thirdP, if_neg (fun h => by omega)]
  · rw [thirdP, if_pos (by omega)]

def plc (p : Int × Int) : PV := .agg [.int .i64 p.1, .int .i64 p.2]

theorem take_allP (xs ys : List (Int × Int)) (hl : xs.length = ys.length) (h : xs.take xs.length = ys.take xs.length) : xs = ys := by
  rw [List.take_length, hl, List.take_length] at h; exact h

theorem places_sat (xs ys : List (Int × Int)) (hx : xs.length ≤ 1000000) (σ : Sto) : SatCall Try.prog 62 [.sl .sh 2 (xs.map plc), .sl .sh 2 (ys.map plc)] σ fun x σ' => x = .bool (decide (xs = ys)) ∧ σ' = σ := by
  refine sat_fn tab Try.func62 rfl (Nat.le_of_ble_eq_true rfl) (by decide) fun hso => ?_
  repeat' (first | (apply og_ops; (first | (apply og_move; (apply op_move (tt := tt); (focus ((conv => lhs; whnf); try exact rfl)); exact rfl)) | (apply og_assign; (apply op_assign (tt := tt); (focus ((conv => lhs; whnf); try exact rfl)); exact rfl)) | (apply og_bin; (apply op_bin true tab; (focus ((conv => lhs; whnf; arg 1; whnf; arg 2; whnf); try exact rfl)); (exact trivial); exact rfl)) | (apply og_callb; (apply op_len tab; (focus ((conv => lhs; whnf; arg 1; whnf; arg 2; whnf); try exact rfl)); (exact trivial); exact rfl)) | (apply ops_nil))) | (apply og_sat; (first | (apply sat_seq) | (apply sat_region) | (apply sat_cond; exact (rfl : _ = PV.bool _); all_goals intro hb) | (apply sat_skip) | (apply sat_ret) | (apply sat_block))) | (apply pe_norm) | (apply pe_ret))
  · (change fnPost _ _ _ _ _ _ _; apply fn_end1; (exact .inr rfl); exact rfl; (focus ((conv => lhs; whnf); try exact rfl)); exact Wk.same _; exact rfl; exact (List.append_nil _).symm; exact Nat.le_refl _; exact trivial; exact hso)
    have : ¬ xs = ys := fun e => by subst e; simp_all
    exact ⟨by simp [this], rfl⟩
  · have hl : xs.length = ys.length := by simp_all; omega
    refine sat_loopW (fun i : Nat => [(0, .sl .sh 2 (xs.map plc)), (1, .sl .sh 2 (ys.map plc)), (5, .int .i64 i)]) (fun _ => σ) (fun i => i ≤ xs.length ∧ xs.take i = ys.take i) (fun i => xs.length - i) 0 ⟨Nat.zero_le _, rfl⟩ ?_ rfl ?_
    · (repeat' (first | exact trivial | exact Wk.same _ | refine ⟨?_, ?_⟩))
    rintro i ⟨hi, ht⟩
    repeat' (first | (apply og_ops; (first | (apply og_move; (apply op_move (tt := tt); (focus ((conv => lhs; whnf); try exact rfl)); exact rfl)) | (apply og_assign; (apply op_assign (tt := tt); (focus ((conv => lhs; whnf); try exact rfl)); exact rfl)) | (apply og_bin; (first | (apply op_bin true tab; (focus ((conv => lhs; whnf; arg 1; whnf; arg 2; whnf); try exact rfl)); (first | exact trivial | (simp only [InR]; omega)); exact rfl) | (apply op_lk; (apply lk_neq tab eqok; exact rfl; exact rfl; (focus ((conv => lhs; whnf); try exact rfl)); (focus ((conv => lhs; whnf); try exact rfl)); exact rfl; exact rfl); (intro c h; cases h); exact rfl))) | (apply og_callb; (apply op_len tab; (focus ((conv => lhs; whnf; arg 1; whnf; arg 2; whnf); try exact rfl)); (exact trivial); exact rfl)) | (apply ops_nil))) | (apply og_sat; (first | (apply sat_seq) | (apply sat_region) | (apply sat_cond; exact (rfl : _ = PV.bool _); all_goals intro hb) | (apply sat_skip) | (apply sat_ret) | (apply sat_block) | (apply sat_exit) | (apply sat_drawC (k := 8); exact mixed; decide +kernel; decide +kernel))) | (apply pe_norm) | (apply pe_ret) | (apply pb_norm) | (apply pb_ret) | (apply pe_exit) | (apply pb_same) | (apply og_dd; (first | (apply dd_lk; (first | (apply lg_indexAddr; exact lk_indexMap (tI := 3) _ tab rfl (by (focus ((conv => lhs; whnf); try exact rfl))) (by (focus ((conv => lhs; whnf); try exact rfl))) rfl (by (omega)) (by (simp only [decide_eq_true_eq, decide_eq_false_iff_not, List.length_map, InR, ne_eq] at *; omega)) (by (focus ((conv => lhs; whnf); try exact rfl)))) | (apply lg_move; (apply lk_move (tt := tt); (focus ((conv => lhs; whnf); try exact rfl)))) | (apply lg_load; (apply lk_load tab; (focus ((conv => lhs; whnf; arg 1; whnf; arg 2; whnf); try skip)); (exact Nat.le_of_ble_eq_true rfl)))); exact rfl; exact rfl) | (apply dd_nil))))
    · (change fnPost _ _ _ _ _ _ _; apply fn_end1; (exact .inr rfl); exact rfl; (focus ((conv => lhs; whnf); try exact rfl)); exact Wk.same _; exact rfl; exact (List.append_nil _).symm; exact Nat.le_refl _; exact trivial; exact hso)
      have : ¬ xs = ys := fun e => by subst e; simp_all
      exact ⟨by simp [this], rfl⟩
    · have hil : i < xs.length := by have := of_decide_eq_true (p := (i : Int) < ((xs.map plc).length : Int)) ‹_›; rw [List.length_map] at this; omega
      have he : xs.getD i default = ys.getD i default := Prod.ext_iff.2 (by simpa using hb)
      refine ⟨i + 1, ⟨by omega, ?_⟩, by omega, ?_, rfl⟩
      · rw [List.take_succ_eq_append_getElem hil, List.take_succ_eq_append_getElem (by omega), ht]
        have e1 : xs.getD i default = xs[i] := by simp [List.getD, hil]
        have e2 : ys.getD i default = ys[i] := by simp [List.getD, show i < ys.length by omega]
        rw [← e1, ← e2, he]
      · (repeat' (first | exact trivial | exact Wk.same _ | refine ⟨?_, ?_⟩))
    · (change fnPost _ _ _ _ _ _ _; apply fn_end1; (exact .inr rfl); exact rfl; (focus ((conv => lhs; whnf); try exact rfl)); exact Wk.same _; exact rfl; exact (List.append_nil _).symm; exact Nat.le_refl _; exact trivial; exact hso)
      have hil := of_decide_eq_false (p := (i : Int) < ((xs.map plc).length : Int)) ‹_›
      rw [List.length_map] at hil
      have : i = xs.length := by omega
      subst this
      have := take_allP xs ys hl ht
      exact ⟨by simp [this], rfl⟩

theorem indexPl_sat (xs : List (Int × Int)) (y : Int × Int) (hl : xs.length ≤ 9223372036854775807) (σ : Sto) : SatCall Try.prog 115 [.sl .sh 2 (xs.map plc), plc y] σ fun x σ' => x = .int .i64 (idxI (fun x => decide (x = y)) xs) ∧ σ' = σ := by
  refine sat_fn tab Try.func115 rfl (Nat.le_of_ble_eq_true rfl) (by decide) fun hso => sat_base ?_
  repeat' (first | (apply og_ops; (first | (apply og_move; (apply op_move (tt := tt); (focus ((conv => lhs; whnf); try exact rfl)); exact rfl)) | (apply og_assign; (apply op_assign (tt := tt); (focus ((conv => lhs; whnf); try exact rfl)); exact rfl)) | (apply og_callb; (apply op_len tab; (focus ((conv => lhs; whnf; arg 1; whnf; arg 2; whnf); try exact rfl)); (exact trivial); exact rfl)) | (apply og_box; (apply op_boxX (tt := tt); (focus ((conv => lhs; whnf); try exact rfl)); exact rfl; (exact (rfl : _ = 0)); exact rfl)) | (apply ops_nil))) | (apply og_sat; (first | (apply sat_seq) | (apply sat_region) | (apply sat_block))) | (apply pe_norm))
  refine sat_loopW (fun i : Nat => [(0, .sl .sh 2 (xs.map plc)), (3, .ptr (σ.length + 0) 0), (7, .int .i64 xs.length), (8, .int .i64 i)]) (fun _ => _) (fun i => i ≤ xs.length ∧ ∀ j, j < i → decide (xs.getD j default = y) = false) (fun i => xs.length - i) 0 ⟨Nat.zero_le _, fun j hj => by omega⟩ ?_ rfl ?_
  · (repeat' (first | exact trivial | exact Wk.same _ | (refine Wk.eq ?_; (conv => rhs; whnf); simp <;> fail) | refine ⟨?_, ?_⟩))
  rintro i ⟨hi, hno⟩
  rcases Nat.lt_or_ge i xs.length with hlt | hge
  · have c1 : decide ((i : Int) < (xs.length : Int)) = true := by simp; omega
    repeat' (first | (apply og_ops; (first | (apply og_move; (apply op_move (tt := tt); (focus ((conv => lhs; whnf); try exact rfl)); exact rfl)) | (apply og_assign; (apply op_assign (tt := tt); (focus ((conv => lhs; whnf); try exact rfl)); exact rfl)) | (apply og_bin; (first | (apply op_bin true tab; (focus ((conv => lhs; whnf; arg 1; whnf; arg 2; whnf); try exact rfl)); (first | exact trivial | (simp only [InR]; omega)); exact rfl) | (apply op_lk; (apply lk_eql tab eqok; exact rfl; exact rfl; (focus ((conv => lhs; whnf); try exact rfl)); (focus ((conv => lhs; whnf); try exact rfl)); exact rfl; exact rfl); (intro c h; cases h); exact rfl))) | (apply ops_nil))) | (apply og_sat; (first | (apply sat_seq) | (apply sat_region) | (apply sat_cond_t; exact rfl; (assumption)) | (apply sat_cond; exact (rfl : _ = PV.bool _); all_goals intro hb) | (apply sat_skip) | (apply sat_ret) | (apply sat_block) | (apply sat_drawC (k := 5); exact mixed; decide +kernel; decide +kernel))) | (apply pe_norm) | (apply pe_ret) | (apply pb_norm) | (apply pb_ret) | (apply og_dd; (first | (apply dd_lk; (first | (apply lg_indexAddr; exact lk_indexMap (tI := 3) _ tab rfl (by (focus ((conv => lhs; whnf); try exact rfl))) (by (focus ((conv => lhs; whnf); try exact rfl))) rfl (by (omega)) (by (omega)) (by (focus ((conv => lhs; whnf); try exact rfl)))) | (apply lg_move; (apply lk_move (tt := tt); (focus ((conv => lhs; whnf); try exact rfl)))) | (apply lg_load; (first | (apply lk_loadX tab; exact rfl; exact rfl; exact rfl; (focus ((conv => lhs; whnf; arg 1; whnf; arg 2; whnf); try skip)); (exact Nat.le_of_ble_eq_true rfl)) | (apply lk_load tab; (focus ((conv => lhs; whnf; arg 1; whnf; arg 2; whnf); try skip)); (exact Nat.le_of_ble_eq_true rfl))))); exact rfl; exact rfl) | (apply dd_nil))))
    · (change fnPost _ _ _ _ _ _ _; apply fn_end1; (exact .inr rfl); exact rfl; (focus ((conv => lhs; whnf); try exact rfl)); exact Wk.same _; exact rfl; exact rfl; exact Nat.le_refl _; exact trivial; exact hso)
      refine ⟨?_, rfl⟩
      rw [idx_hit hlt hno (by have h := hb; simp only [Int.toNat_natCast] at h; rw [decide_eq_true_eq]; refine Prod.ext ?_ ?_ <;> (simp at h ⊢; omega))]
    · refine ⟨i + 1, ⟨by omega, fun j hj => ?_⟩, by omega, ?_, rfl⟩
      · by_cases e : j = i
        · subst e
          rw [decide_eq_false_iff_not]
          intro e
          rw [← e] at hb
          simp at hb
        · exact hno j (by omega)
      · (repeat' (first | exact trivial | exact Wk.same _ | refine ⟨?_, ?_⟩))
  · have c1 : decide ((i : Int) < (xs.length : Int)) = false := by simp; omega
    repeat' (first | (apply og_ops; (first | (apply og_assign; (apply op_assign (tt := tt); (focus ((conv => lhs; whnf); try exact rfl)); exact rfl)) | (apply og_bin; (apply op_bin true tab; (focus ((conv => lhs; whnf; arg 1; whnf; arg 2; whnf); try exact rfl)); (exact trivial); exact rfl)) | (apply ops_nil))) | (apply og_sat; (first | (apply sat_seq) | (apply sat_region) | (apply sat_cond_f; exact rfl; (assumption)) | (apply sat_ret) | (apply sat_exit))) | (apply pe_norm) | (apply pe_exit) | (apply pb_same))
    (change fnPost _ _ _ _ _ _ _; apply fn_end1; (exact .inr rfl); exact rfl; (focus ((conv => lhs; whnf); try exact rfl)); exact Wk.same _; exact rfl; exact rfl; exact Nat.le_refl _; exact trivial; exact hso)
    exact ⟨by rw [idx_none fun j hj => hno j (by omega)], rfl⟩

theorem containsPl_sat (xs : List (Int × Int)) (y : Int × Int) (hl : xs.length ≤ 9223372036854775807) (σ : Sto) : SatCall Try.prog 105 [.sl .sh 2 (xs.map plc), plc y] σ fun x σ' => x = .bool (decide (y ∈ xs)) ∧ σ' = σ := by
  refine sat_fn tab Try.func105 rfl (Nat.le_of_ble_eq_true rfl) (by decide) fun hso => sat_base ?_
  have := indexPl_sat xs y hl
  repeat' (first | (apply og_ops; (first | (apply og_move; (apply op_move (tt := tt); (focus ((conv => lhs; whnf); try exact rfl)); exact rfl)) | (apply og_assign; (apply op_assign (tt := tt); (focus ((conv => lhs; whnf); try exact rfl)); exact rfl)) | (apply og_callv; (refine op_callP (tt := tt) cal115 (indexPl_sat _ _ ?_ _) rfl rfl rfl rfl rfl ?_; (assumption))) | (apply og_bin; (apply op_bin true tab; (focus ((conv => lhs; whnf; arg 1; whnf; arg 2; whnf); try exact rfl)); (exact trivial); exact rfl)) | (apply og_load; (apply op_lk; (apply lk_loadX tab; exact rfl; exact rfl; exact rfl; (focus ((conv => lhs; whnf; arg 1; whnf; arg 2; whnf); try skip)); (exact Nat.le_of_ble_eq_true rfl)); (intro c h; cases h); exact rfl)) | (apply og_box; (apply op_boxX (tt := tt); (focus ((conv => lhs; whnf); try exact rfl)); exact rfl; (exact (rfl : _ = 0)); exact rfl)) | (apply ops_nil))) | (apply og_sat; (first | (apply sat_seq) | (apply sat_region) | (apply sat_ret))) | (apply pe_norm))
  (change fnPost _ _ _ _ _ _ _; apply fn_end1; (exact .inr rfl); exact rfl; (focus ((conv => lhs; whnf); try exact rfl)); exact Wk.same _; exact rfl; exact rfl; exact Nat.le_refl _; exact trivial; exact hso)
  refine ⟨?_, rfl⟩
  rw [idx_any]
  congr 1
  rw [Bool.eq_iff_iff]; simp

end Go.Proofs.Ytbjmafbbjhoddaa.Pv
