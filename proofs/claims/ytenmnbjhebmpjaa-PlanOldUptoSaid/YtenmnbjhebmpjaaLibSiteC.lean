/- Package site: a place besides. -/
import Derived.Test.YtenmnbjhebmpjaaLibSiteB
namespace Go.Proofs.Ytenmnbjhebmpjaa.Pv
open Go
set_option linter.unusedVariables false
set_option linter.unusedSimpArgs false
set_option maxRecDepth 100000

theorem indexFuncPl_sat {g : FuncId} {caps : List PV} (p : Int × Int → Bool) (xs : List (Int × Int)) (hl : xs.length ≤ 9223372036854775807) (σ : Sto) (hg : Callable Try.prog g) (hf : ∀ x ∈ xs, SatCall Try.prog g (plc x :: caps) σ fun r σ' => r = .bool (p x) ∧ σ' = σ) (htup : (caps.all fun p => !p.isTup) = true) :
    SatCall Try.prog 84 [.sl .sh 2 (xs.map plc), .fn (.func g) [] caps] σ fun x σ' => x = .int .i64 (idxI p xs) ∧ σ' = σ := by
  refine sat_fn tab Try.func84 rfl (Nat.le_of_ble_eq_true rfl) (by decide) fun hso => ?_
  repeat' (first | (apply og_ops; (first | (apply og_move; (apply op_move (tt := tt); (focus ((conv => lhs; whnf); try exact rfl)); exact rfl)) | (apply og_assign; (apply op_assign (tt := tt); (focus ((conv => lhs; whnf); try exact rfl)); exact rfl)) | (apply og_callb; (apply op_len tab; (focus ((conv => lhs; whnf; arg 1; whnf; arg 2; whnf); try exact rfl)); (exact trivial); exact rfl)) | (apply ops_nil))) | (apply og_sat; (first | (apply sat_seq) | (apply sat_region) | (apply sat_block))) | (apply pe_norm))
  refine sat_loopW (fun i : Nat => [(0, .sl .sh 2 (xs.map plc)), (1, .fn (.func g) [] caps), (7, .int .i64 xs.length), (8, .int .i64 i)]) (fun _ => σ) (fun i => i ≤ xs.length ∧ ∀ j, j < i → p (xs.getD j default) = false) (fun i => xs.length - i) 0 ⟨Nat.zero_le _, fun j hj => by omega⟩ ?_ rfl ?_
  · (repeat' (first | exact trivial | exact Wk.same _ | (refine Wk.eq ?_; (conv => rhs; whnf); simp <;> fail) | refine ⟨?_, ?_⟩))
  rintro i ⟨hi, hno⟩
  rcases Nat.lt_or_ge i xs.length with hlt | hge
  · have c1 : decide ((i : Int) < (xs.length : Int)) = true := by simp; omega
    repeat' (first | (apply og_ops; (first | (apply og_move; (apply op_move (tt := tt); (focus ((conv => lhs; whnf); try exact rfl)); exact rfl)) | (apply og_assign; (apply op_assign (tt := tt); (focus ((conv => lhs; whnf); try exact rfl)); exact rfl)) | (apply og_bin; (apply op_bin true tab; (focus ((conv => lhs; whnf; arg 1; whnf; arg 2; whnf); try exact rfl)); (exact trivial); exact rfl)) | (apply og_load; (apply op_load tab; (focus ((conv => lhs; whnf; arg 1; whnf; arg 2; whnf); try skip)); (exact Nat.le_of_ble_eq_true rfl); exact rfl)) | (apply og_indexAddr; (refine op_indexMap (tI := 3) _ tab rfl (by (focus ((conv => lhs; whnf); try exact rfl))) (by (focus ((conv => lhs; whnf); try exact rfl))) rfl (by (omega)) (by (omega)) (by (focus ((conv => lhs; whnf); try exact rfl))) (ltn rfl) ?_)) | (apply ops_nil))) | (apply og_sat; (first | (apply sat_seq) | (apply sat_region) | (apply sat_cond_t; exact rfl; (assumption)) | (apply sat_skip) | (apply sat_block))) | (apply pe_norm))
    refine op_callF (tt := tt) hg (hf _ (getD_memL hlt)) rfl rfl rfl (by simpa [PV.isTup, plc] using htup) rfl ?_
    repeat' (first | (apply og_ops; (first | (apply og_move; (apply op_move (tt := tt); (focus ((conv => lhs; whnf); try exact rfl)); exact rfl)) | (apply og_assign; (apply op_assign (tt := tt); (focus ((conv => lhs; whnf); try exact rfl)); exact rfl)) | (apply og_bin; (apply op_bin true tab; (focus ((conv => lhs; whnf; arg 1; whnf; arg 2; whnf); try exact rfl)); (simp only [InR]; omega); exact rfl)) | (apply ops_nil))) | (apply og_sat; (first | (apply sat_seq) | (apply sat_region) | (apply sat_cond; exact (rfl : _ = PV.bool _); all_goals intro hb) | (apply sat_skip) | (apply sat_ret))) | (apply pe_norm) | (apply pe_ret) | (apply pb_norm) | (apply pb_ret))
    · (change fnPost _ _ _ _ _ _ _; apply fn_end1; (exact .inr rfl); exact rfl; (focus ((conv => lhs; whnf); try exact rfl)); exact Wk.same _; exact rfl; exact (List.append_nil _).symm; exact Nat.le_refl _; exact trivial; exact hso)
      exact ⟨by rw [idx_hit hlt hno hb], rfl⟩
    · refine ⟨i + 1, ⟨by omega, fun j hj => ?_⟩, by omega, ?_, rfl⟩
      · by_cases e : j = i
        · subst e; exact hb
        · exact hno j (by omega)
      · (repeat' (first | exact trivial | exact Wk.same _ | refine ⟨?_, ?_⟩))
  · have c1 : decide ((i : Int) < (xs.length : Int)) = false := by simp; omega
    repeat' (first | (apply og_ops; (first | (apply og_assign; (apply op_assign (tt := tt); (focus ((conv => lhs; whnf); try exact rfl)); exact rfl)) | (apply og_bin; (apply op_bin true tab; (focus ((conv => lhs; whnf; arg 1; whnf; arg 2; whnf); try exact rfl)); (exact trivial); exact rfl)) | (apply ops_nil))) | (apply og_sat; (first | (apply sat_seq) | (apply sat_region) | (apply sat_cond_f; exact rfl; (assumption)) | (apply sat_ret) | (apply sat_exit))) | (apply pe_norm) | (apply pe_exit) | (apply pb_same))
    (change fnPost _ _ _ _ _ _ _; apply fn_end1; (exact .inr rfl); exact rfl; (focus ((conv => lhs; whnf); try exact rfl)); exact Wk.same _; exact rfl; exact (List.append_nil _).symm; exact Nat.le_refl _; exact trivial; exact hso)
    exact ⟨by rw [idx_none fun j hj => hno j (by omega)], rfl⟩

theorem containsFuncPl_sat {g : FuncId} {caps : List PV} (p : Int × Int → Bool) (xs : List (Int × Int)) (hl : xs.length ≤ 9223372036854775807) (σ : Sto) (hg : Callable Try.prog g) (hf : ∀ x ∈ xs, SatCall Try.prog g (plc x :: caps) σ fun r σ' => r = .bool (p x) ∧ σ' = σ) (htup : (caps.all fun p => !p.isTup) = true) :
    SatCall Try.prog 75 [.sl .sh 2 (xs.map plc), .fn (.func g) [] caps] σ fun x σ' => x = .bool (xs.any p) ∧ σ' = σ := by
  refine sat_fn tab Try.func75 rfl (Nat.le_of_ble_eq_true rfl) (by decide) fun hso => ?_
  repeat' (first | (apply og_ops; (first | (apply og_move; (apply op_move (tt := tt); (focus ((conv => lhs; whnf); try exact rfl)); exact rfl)) | (apply og_assign; (apply op_assign (tt := tt); (focus ((conv => lhs; whnf); try exact rfl)); exact rfl)) | (apply ops_nil))) | (apply og_sat; (first | (apply sat_seq) | (apply sat_region))) | (apply pe_norm))
  refine op_callP (tt := tt) cal84 (indexFuncPl_sat p xs hl σ hg hf htup) rfl rfl rfl rfl rfl ?_
  repeat' (first | (apply og_ops; (first | (apply og_assign; (apply op_assign (tt := tt); (focus ((conv => lhs; whnf); try exact rfl)); exact rfl)) | (apply og_bin; (apply op_bin true tab; (focus ((conv => lhs; whnf; arg 1; whnf; arg 2; whnf); try exact rfl)); (exact trivial); exact rfl)) | (apply ops_nil))) | (apply og_sat; (apply sat_ret)) | (apply pe_norm))
  (change fnPost _ _ _ _ _ _ _; apply fn_end1; (exact .inr rfl); exact rfl; (focus ((conv => lhs; whnf); try exact rfl)); exact Wk.same _; exact rfl; exact (List.append_nil _).symm; exact Nat.le_refl _; exact trivial; exact hso)
  exact ⟨by rw [← idx_any], rfl⟩

theorem indexPl_sat (xs : List (Int × Int)) (y : Int × Int) (hl : xs.length ≤ 9223372036854775807) (σ : Sto) : SatCall Try.prog 87 [.sl .sh 2 (xs.map plc), plc y] σ fun x σ' => x = .int .i64 (idxI (fun x => decide (x = y)) xs) ∧ σ' = σ := by
  refine sat_fn tab Try.func87 rfl (Nat.le_of_ble_eq_true rfl) (by decide) fun hso => sat_base ?_
  repeat' (first | (apply og_ops; (first | (apply og_move; (apply op_move (tt := tt); (focus ((conv => lhs; whnf); try exact rfl)); exact rfl)) | (apply og_assign; (apply op_assign (tt := tt); (focus ((conv => lhs; whnf); try exact rfl)); exact rfl)) | (apply og_callb; (apply op_len tab; (focus ((conv => lhs; whnf; arg 1; whnf; arg 2; whnf); try exact rfl)); (exact trivial); exact rfl)) | (apply og_box; (apply op_boxX (tt := tt); (focus ((conv => lhs; whnf); try exact rfl)); exact rfl; (exact (rfl : _ = 0)); exact rfl)) | (apply ops_nil))) | (apply og_sat; (first | (apply sat_seq) | (apply sat_region) | (apply sat_block))) | (apply pe_norm))
  refine sat_loopW (fun i : Nat => [(0, .sl .sh 2 (xs.map plc)), (3, .ptr (σ.length + 0) 0), (7, .int .i64 xs.length), (8, .int .i64 i)]) (fun _ => _) (fun i => i ≤ xs.length ∧ ∀ j, j < i → decide (xs.getD j default = y) = false) (fun i => xs.length - i) 0 ⟨Nat.zero_le _, fun j hj => by omega⟩ ?_ rfl ?_
  · (repeat' (first | exact trivial | exact Wk.same _ | (refine Wk.eq ?_; (conv => rhs; whnf); simp <;> fail) | refine ⟨?_, ?_⟩))
  rintro i ⟨hi, hno⟩
  rcases Nat.lt_or_ge i xs.length with hlt | hge
  · have c1 : decide ((i : Int) < (xs.length : Int)) = true := by simp; omega
    repeat' (first | (apply og_ops; (first | (apply og_move; (apply op_move (tt := tt); (focus ((conv => lhs; whnf); try exact rfl)); exact rfl)) | (apply og_assign; (apply op_assign (tt := tt); (focus ((conv => lhs; whnf); try exact rfl)); exact rfl)) | (apply og_bin; (first | (apply op_bin true tab; (focus ((conv => lhs; whnf; arg 1; whnf; arg 2; whnf); try exact rfl)); (first | exact trivial | (simp only [InR]; omega)); exact rfl) | (apply op_lk; (apply lk_eql tab eqok; exact rfl; exact rfl; (focus ((conv => lhs; whnf); try exact rfl)); (focus ((conv => lhs; whnf); try exact rfl)); exact rfl; exact rfl); (intro c h; cases h); exact rfl))) | (apply ops_nil))) | (apply og_sat; (first | (apply sat_seq) | (apply sat_region) | (apply sat_cond_t; exact rfl; (assumption)) | (apply sat_cond; exact (rfl : _ = PV.bool _); all_goals intro hb) | (apply sat_skip) | (apply sat_ret) | (apply sat_block) | (apply sat_drawC (k := 5); exact mixed; decide +kernel; decide +kernel))) | (apply pe_norm) | (apply pe_ret) | (apply pb_norm) | (apply pb_ret) | (apply og_dd; (first | (apply dd_lk; (first | (apply lg_indexAddr; exact lk_indexMap (tI := 3) _ tab rfl (by (focus ((conv => lhs; whnf); try exact rfl))) (by (focus ((conv => lhs; whnf); try exact rfl))) rfl (by (omega)) (by (omega)) (by (focus ((conv => lhs; whnf); try exact rfl)))) | (apply lg_move; (apply lk_move (tt := tt); (focus ((conv => lhs; whnf); try exact rfl)))) | (apply lg_load; (first | (apply lk_loadX tab; exact rfl; exact rfl; exact rfl; (focus ((conv => lhs; whnf; arg 1; whnf; arg 2; whnf); try skip)); (exact Nat.le_of_ble_eq_true rfl)) | (apply lk_load tab; (focus ((conv => lhs; whnf; arg 1; whnf; arg 2; whnf); try skip)); (exact Nat.le_of_ble_eq_true rfl))))); exact rfl; exact rfl) | (apply dd_nil))))
    · (change fnPost _ _ _ _ _ _ _; apply fn_end1; (exact .inr rfl); exact rfl; (focus ((conv => lhs; whnf); try exact rfl)); exact Wk.same _; exact rfl; exact rfl; exact Nat.le_refl _; exact trivial; exact hso)
      refine ⟨?_, rfl⟩
      rw [idx_hit hlt hno (by have h := hb; simp only [Int.toNat_natCast] at h; rw [decide_eq_true_eq]; refine Prod.ext ?_ ?_ <;> (simp at h ⊢; omega))]
    · refine ⟨i + 1, ⟨by omega, fun j hj => ?_⟩, by omega, ?_, rfl⟩
      · by_cases e : j = i
        · subst e
          rw [decide_eq_false_iff_not]
          intro e
          rw [← e] at hb
          simp at hb
        · exact hno j (by omega)
      · (repeat' (first | exact trivial | exact Wk.same _ | refine ⟨?_, ?_⟩))
  · have c1 : decide ((i : Int) < (xs.length : Int)) = false := by simp; omega
    repeat' (first | (apply og_ops; (first | (apply og_assign; (apply op_assign (tt := tt); (focus ((conv => lhs; whnf); try exact rfl)); exact rfl)) | (apply og_bin; (apply op_bin true tab; (focus ((conv => lhs; whnf; arg 1; whnf; arg 2; whnf); try exact rfl)); (exact trivial); exact rfl)) | (apply ops_nil))) | (apply og_sat; (first | (apply sat_seq) | (apply sat_region) | (apply sat_cond_f; exact rfl; (assumption)) | (apply sat_ret) | (apply sat_exit))) | (apply pe_norm) | (apply pe_exit) | (apply pb_same))
    (change fnPost _ _ _ _ _ _ _; apply fn_end1; (exact .inr rfl); exact rfl; (focus ((conv => lhs; whnf); try exact rfl)); exact Wk.same _; exact rfl; exact rfl; exact Nat.le_refl _; exact trivial; exact hso)
    exact ⟨by rw [idx_none fun j hj => hno j (by omega)], rfl⟩

theorem containsPl_sat (xs : List (Int × Int)) (y : Int × Int) (hl : xs.length ≤ 9223372036854775807) (σ : Sto) : SatCall Try.prog 78 [.sl .sh 2 (xs.map plc), plc y] σ fun x σ' => x = .bool (decide (y ∈ xs)) ∧ σ' = σ := by
  refine sat_fn tab Try.func78 rfl (Nat.le_of_ble_eq_true rfl) (by decide) fun hso => sat_base ?_
  have := indexPl_sat xs y hl
  repeat' (first | (apply og_ops; (first | (apply og_move; (apply op_move (tt := tt); (focus ((conv => lhs; whnf); try exact rfl)); exact rfl)) | (apply og_assign; (apply op_assign (tt := tt); (focus ((conv => lhs; whnf); try exact rfl)); exact rfl)) | (apply og_callv; (refine op_callP (tt := tt) cal87 (indexPl_sat _ _ ?_ _) rfl rfl rfl rfl rfl ?_; (assumption))) | (apply og_bin; (apply op_bin true tab; (focus ((conv => lhs; whnf; arg 1; whnf; arg 2; whnf); try exact rfl)); (exact trivial); exact rfl)) | (apply og_load; (apply op_lk; (apply lk_loadX tab; exact rfl; exact rfl; exact rfl; (focus ((conv => lhs; whnf; arg 1; whnf; arg 2; whnf); try skip)); (exact Nat.le_of_ble_eq_true rfl)); (intro c h; cases h); exact rfl)) | (apply og_box; (apply op_boxX (tt := tt); (focus ((conv => lhs; whnf); try exact rfl)); exact rfl; (exact (rfl : _ = 0)); exact rfl)) | (apply ops_nil))) | (apply og_sat; (first | (apply sat_seq) | (apply sat_region) | (apply sat_ret))) | (apply pe_norm))
  (change fnPost _ _ _ _ _ _ _; apply fn_end1; (exact .inr rfl); exact rfl; (focus ((conv => lhs; whnf); try exact rfl)); exact Wk.same _; exact rfl; exact rfl; exact Nat.le_refl _; exact trivial; exact hso)
  refine ⟨?_, rfl⟩
  rw [idx_any]
  congr 1
  rw [Bool.eq_iff_iff]; simp

/-- A place besides, and the error's number. -/
def nextP (l : List (Int × Int)) (nodes : Int) (live : List Bool) : (Int × Int) × Int :=
  if l = [] ∨ ¬ (1 ≤ nodes ∧ nodes ≤ 64) then ((0, 0), 1)
  else if l.any (fun p => p.1 != (l.getD 0 default).1) then ((0, 0), 1)
  else match (ringP (max ((l.getD (l.length - 1) default).2.tmod nodes) 0) nodes live).find? (fun n => !decide (((l.getD 0 default).1, n) ∈ l)) with
    | some n => (((l.getD 0 default).1, n), 0)
    | none => ((0, 0), 10)

theorem next1_sat (p : Int × Int) (i : Nat) (r : Int) (σ : Sto) (hi : σ[i]? = some (.cells [.int .i64 r])) : SatCall Try.prog 76 [plc p, .ptr i 0] σ fun x σ' => x = .bool (p.1 != r) ∧ σ' = σ := by
  refine sat_fn tab Try.func76 rfl (Nat.le_of_ble_eq_true rfl) (by decide) fun hso => sat_base ?_
  repeat' (first | (apply og_ops; (first | (apply og_assign; (apply op_assign (tt := tt); (focus ((conv => lhs; whnf); try exact rfl)); exact rfl)) | (apply og_bin; (apply op_bin true tab; (focus ((conv => lhs; whnf; arg 1; whnf; arg 2; whnf); try exact rfl)); (exact trivial); exact rfl)) | (apply og_load; (first | (apply op_lk; (apply lk_loadX tab; exact rfl; exact rfl; exact rfl; (focus ((conv => lhs; whnf; arg 1; whnf; arg 2; whnf); try skip)); (exact trivial)); (intro c h; cases h); exact rfl) | (apply op_lk; (apply lk_loadB tab; exact rfl; exact rfl; (exact getL (by assumption)); (focus ((conv => lhs; whnf; arg 1; whnf; arg 2; whnf); try skip)); (exact trivial)); (intro c h; cases h); exact rfl))) | (apply og_fieldAddr; (apply op_lk; (apply lk_fieldAddrB tab; exact rfl; (focus ((conv => lhs; whnf); try exact rfl)); exact rfl; (exact (rfl : _ = 0))); (intro c h; cases h); exact rfl)) | (apply og_box; (apply op_boxX (tt := tt); (focus ((conv => lhs; whnf); try exact rfl)); exact rfl; (exact (rfl : _ = 0)); exact rfl)) | (apply ops_nil))) | (apply og_sat; (first | (apply sat_seq) | (apply sat_region) | (apply sat_ret))) | (apply pe_norm))
  (change fnPost _ _ _ _ _ _ _; apply fn_endN; (exact .inr rfl); (focus (repeat' (first | (apply rr_tmp; (focus ((conv => lhs; whnf); try exact rfl)); (exact Wk.same _)) | exact rr_nil))); exact rfl; (exact rfl); exact Nat.le_refl _; (focus (repeat' (first | exact trivial | refine ⟨?_, ?_⟩))); exact hso)
  exact ⟨rfl, rfl⟩

theorem refThird_sat (a b : Int) (σ : Sto) : SatCall Try.prog 59 [.int .i64 a, .int .i64 b] σ fun x σ' => x = .tup [.int .i64 (thirdP a b).1, .int .i64 (thirdP a b).2] ∧ σ' = σ := by
  refine sat_fn tab Try.func59 rfl (Nat.le_of_ble_eq_true rfl) (by decide) fun hso => ?_
  by_cases h : (1 ≤ a ∧ a ≤ 3) ∧ (1 ≤ b ∧ b ≤ 3) ∧ a ≠ b
  · obtain ⟨h1, h2, h3⟩ := h
    have e : thirdP a b = (6 - a - b, 0) := if_pos ⟨h1, h2, h3⟩
    rw [e]
    have c1 : decide (a < 1) = false := by simp; omega
    have c2 : decide (3 < a) = false := by simp; omega
    have c3 : decide (b < 1) = false := by simp; omega
    have c4 : decide (3 < b) = false := by simp; omega
    have c5 : (a == b) = false := by simpa using h3
    repeat' (first | (apply og_ops; (first | (apply og_guard; (apply ops_guard_t; exact (rfl : _ = some _); exact (rfl : _ = PV.bool _); (assumption))) | (apply og_move; (apply op_move (tt := tt); (focus ((conv => lhs; whnf); try exact rfl)); exact rfl)) | (apply og_assign; (apply op_assign (tt := tt); (focus ((conv => lhs; whnf); try exact rfl)); exact rfl)) | (apply og_bin; (apply op_bin true tab; (focus ((conv => lhs; whnf; arg 1; whnf; arg 2; whnf); try exact rfl)); (exact trivial); exact rfl)) | (apply og_pick; (apply op_pick (tt := tt); exact (rfl : _ = PV.bool _); (refine .inr ⟨by assumption, ?_⟩); (focus ((conv => lhs; whnf); try exact rfl)); exact ltn rfl)) | (apply ops_nil))) | (apply og_sat; (first | (apply sat_seq) | (apply sat_region) | (apply sat_cond_f; exact rfl; (assumption)) | (apply sat_skip) | (apply sat_block))) | (apply pe_norm))
    refine sat_loopW (fun r : Nat => [(0, .int .i64 a), (1, .int .i64 b), (6, .int .i64 r)]) (fun _ => σ) (fun r => 1 ≤ r ∧ (r : Int) ≤ 6 - a - b ∧ r ≤ 3 ∧ ∀ j : Nat, 1 ≤ j → j < r → (j : Int) = a ∨ (j : Int) = b) (fun r => 4 - r) 1 ⟨by omega, by omega, by omega, fun j h1 h2 => by omega⟩ ?_ rfl ?_
    · (repeat' (first | exact trivial | exact Wk.same _ | refine ⟨?_, ?_⟩))
    rintro r ⟨r1, r2, r3, r4⟩
    have d1 : decide ((r : Int) ≤ 3) = true := by simp; omega
    repeat' (first | (apply og_ops; (first | (apply og_guard; (first | (apply ops_guard_t; exact (rfl : _ = some _); exact (rfl : _ = PV.bool _); (assumption)) | (apply ops_guard_f'; exact (rfl : _ = some _); exact (rfl : _ = PV.bool _); (assumption); exact ltn rfl) | (apply ops_gsplit; exact (rfl : _ = some _); exact (rfl : _ = PV.bool _); all_goals intro hb))) | (apply og_move; (apply op_move (tt := tt); (focus ((conv => lhs; whnf); try exact rfl)); exact rfl)) | (apply og_assign; (apply op_assign (tt := tt); (focus ((conv => lhs; whnf); try exact rfl)); exact rfl)) | (apply og_bin; (apply op_bin true tab; (focus ((conv => lhs; whnf; arg 1; whnf; arg 2; whnf); try exact rfl)); (first | exact trivial | (simp only [InR]; omega)); exact rfl)) | (apply og_pick; (apply op_pick (tt := tt); exact (rfl : _ = PV.bool _); (first | refine .inl ⟨by assumption, ?_⟩ | refine .inr ⟨by assumption, ?_⟩); (focus ((conv => lhs; whnf); try exact rfl)); exact ltn rfl)) | (apply ops_nil))) | (apply og_sat; (first | (apply sat_seq) | (apply sat_region) | (apply sat_cond_t; exact rfl; (assumption)) | (apply sat_cond_f; exact rfl; (exact rfl)) | (apply sat_cond; exact (rfl : _ = PV.bool _); all_goals intro hb) | (apply sat_skip) | (apply sat_ret) | (apply sat_block))) | (apply pe_norm) | (apply pe_ret) | (apply pb_norm) | (apply pb_ret))
    · (change fnPost _ _ _ _ _ _ _; apply fn_endN; (exact .inr rfl); (focus (repeat' (first | (apply rr_tmp; (focus ((conv => lhs; whnf); try exact rfl)); (exact Wk.same _)) | exact rr_nil))); exact rfl; (exact (List.append_nil _).symm); exact Nat.le_refl _; (focus (repeat' (first | exact trivial | refine ⟨?_, ?_⟩))); exact hso)
      have g1 : (r : Int) ≠ a := by simpa using ‹((r : Int) != a) = true›
      have g2 : (r : Int) ≠ b := by simpa using ‹((r : Int) != b) = true›
      refine ⟨?_, rfl⟩
      have : (r : Int) = 6 - a - b := by
        rcases (by omega : r = 1 ∨ r = 2 ∨ r = 3) with rfl | rfl | rfl
        · omega
        · have := r4 1 (by omega) (by omega); omega
        · have := r4 1 (by omega) (by omega); have := r4 2 (by omega) (by omega); omega
      rw [this]; rfl
    · have g2 : (r : Int) = b := by simpa using ‹((r : Int) != b) = false›
      refine ⟨r + 1, ⟨by omega, by rcases (by omega : r = 1 ∨ r = 2 ∨ r = 3) with rfl | rfl | rfl <;> first | omega | (have := r4 1 (by omega) (by omega); have := r4 2 (by omega) (by omega); omega) | (have := r4 1 (by omega) (by omega); omega), ?_, fun j h1 h2 => ?_⟩, by omega, ?_, rfl⟩
      · rcases (by omega : r = 1 ∨ r = 2 ∨ r = 3) with rfl | rfl | rfl
        · omega
        · omega
        · have := r4 1 (by omega) (by omega); have := r4 2 (by omega) (by omega); omega
      · by_cases e : j = r
        · subst e; exact .inr g2
        · exact r4 j h1 (by omega)
      · (repeat' (first | exact trivial | exact Wk.same _ | refine ⟨?_, ?_⟩))
    · have g2 : (r : Int) = a := by simpa using ‹((r : Int) != a) = false›
      refine ⟨r + 1, ⟨by omega, by rcases (by omega : r = 1 ∨ r = 2 ∨ r = 3) with rfl | rfl | rfl <;> first | omega | (have := r4 1 (by omega) (by omega); have := r4 2 (by omega) (by omega); omega) | (have := r4 1 (by omega) (by omega); omega), ?_, fun j h1 h2 => ?_⟩, by omega, ?_, rfl⟩
      · rcases (by omega : r = 1 ∨ r = 2 ∨ r = 3) with rfl | rfl | rfl
        · omega
        · omega
        · have := r4 1 (by omega) (by omega); have := r4 2 (by omega) (by omega); omega
      · by_cases e : j = r
        · subst e; exact .inl g2
        · exact r4 j h1 (by omega)
      · (repeat' (first | exact trivial | exact Wk.same _ | refine ⟨?_, ?_⟩))
  · have e : thirdP a b = (0, 1) := if_neg h
    rw [e]
    repeat' (first | (apply og_ops; (first | (apply og_guard; (first | (apply ops_guard_t; exact (rfl : _ = some _); exact (rfl : _ = PV.bool _); (assumption)) | (apply ops_guard_f'; exact (rfl : _ = some _); exact (rfl : _ = PV.bool _); (first | exact rfl | assumption); exact ltn rfl) | (apply ops_gsplit; exact (rfl : _ = some _); exact (rfl : _ = PV.bool _); all_goals intro hb))) | (apply og_move; (apply op_move (tt := tt); (focus ((conv => lhs; whnf); try exact rfl)); exact rfl)) | (apply og_assign; (apply op_assign (tt := tt); (focus ((conv => lhs; whnf); try exact rfl)); exact rfl)) | (apply og_bin; (apply op_bin true tab; (focus ((conv => lhs; whnf; arg 1; whnf; arg 2; whnf); try exact rfl)); (exact trivial); exact rfl)) | (apply og_pick; (apply op_pick (tt := tt); exact (rfl : _ = PV.bool _); (first | refine .inl ⟨rfl, ?_⟩ | refine .inl ⟨by assumption, ?_⟩ | refine .inr ⟨by assumption, ?_⟩); (focus ((conv => lhs; whnf); try exact rfl)); exact ltn rfl)) | (apply ops_nil))) | (apply og_sat; (first | (apply sat_seq) | (apply sat_region) | (apply sat_cond_t; exact rfl; (exact rfl)) | (apply sat_cond; exact (rfl : _ = PV.bool _); all_goals intro hb) | (apply sat_skip) | (apply sat_ret) | (apply sat_block))) | (apply pe_norm) | (apply pe_ret))
    all_goals first
      | ((change fnPost _ _ _ _ _ _ _; apply fn_endN; (exact .inr rfl); (focus (repeat' (first | (apply rr_tmp; (focus ((conv => lhs; whnf); try exact rfl)); (exact Wk.same _)) | exact rr_nil))); exact rfl; (exact (List.append_nil _).symm); exact Nat.le_refl _; (focus (repeat' (first | exact trivial | refine ⟨?_, ?_⟩))); exact hso); exact ⟨rfl, rfl⟩)
      | skip
    exfalso
    simp only [decide_eq_false_iff_not, beq_eq_false_iff_ne] at *
    omega

theorem ring_satX (vol nodes : Int) (live : List Bool) (τ ex : Sto) (k : Nat) (hk : ex.length = k) : SatCall Try.prog 77 [.int .i64 vol, .int .i64 nodes, .sl .sh 1 (live.map .bool)] (τ ++ ex) fun x σ' =>
    x = .fn (.func 85) [] [.ptr (τ.length + k) 0, .ptr (τ.length + (k + 1)) 0, .ptr (τ.length + (k + 2)) 0] ∧ σ' = τ ++ (ex ++ [.cells [.int .i64 vol], .cells [.int .i64 nodes], .cells [.sl .sh 1 (live.map .bool)]]) := by
  refine (ring_sat vol nodes live (τ ++ ex)).mono fun x σ' ⟨h1, h2⟩ => ⟨?_, ?_⟩
  · rw [h1, List.length_append, hk]; rfl
  · rw [h2, List.append_assoc]

theorem next_sat (l : List (Int × Int)) (nodes : Int) (live : List Bool) (hl : l.length ≤ 9223372036854775807) (σ : Sto) : SatCall Try.prog 53 [.sl .sh 2 (l.map plc), .int .i64 nodes, .sl .sh 1 (live.map .bool)] σ fun x σ' =>
    x = .tup [plc (nextP l nodes live).1, .int .i64 (nextP l nodes live).2] ∧ σ' = σ := by
  refine sat_fn tab Try.func53 rfl (Nat.le_of_ble_eq_true rfl) (by decide) fun hso => sat_base ?_
  by_cases h1 : l = [] ∨ ¬ (1 ≤ nodes ∧ nodes ≤ 64)
  · have e : nextP l nodes live = ((0, 0), 1) := if_pos h1
    rw [e]
    by_cases h2 : l = []
    · subst h2
      repeat' (first | (apply og_ops; (first | (apply og_guard; (apply ops_guard_f'; exact (rfl : _ = some _); exact (rfl : _ = PV.bool _); (exact rfl); exact ltn rfl)) | (apply og_move; (apply op_move (tt := tt); (focus ((conv => lhs; whnf); try exact rfl)); exact rfl)) | (apply og_bin; (apply op_bin true tab; (focus ((conv => lhs; whnf; arg 1; whnf; arg 2; whnf); try exact rfl)); (exact trivial); exact rfl)) | (apply og_pick; (apply op_pick (tt := tt); exact (rfl : _ = PV.bool _); (refine .inl ⟨rfl, ?_⟩); (focus ((conv => lhs; whnf); try exact rfl)); exact ltn rfl)) | (apply og_load; (apply op_lk; (apply lk_loadX tab; exact rfl; exact rfl; exact rfl; (focus ((conv => lhs; whnf; arg 1; whnf; arg 2; whnf); try skip)); (exact trivial)); (intro c h; cases h); exact rfl)) | (apply og_callb; (apply op_len tab; (focus ((conv => lhs; whnf; arg 1; whnf; arg 2; whnf); try exact rfl)); (exact trivial); exact rfl)) | (apply og_store; (apply op_storeX tab; exact rfl; exact rfl; exact rfl; exact rfl; exact rfl; exact rfl; exact rfl; exact rfl)) | (apply og_build; (apply op_lk; (apply lk_build tab; exact rfl; (focus ((conv => lhs; whnf; arg 1; whnf; arg 2; whnf); try skip))); (intro c h; cases h); exact rfl)) | (apply og_alloc; (apply op_allocX tab; exact rfl; exact rfl; (first | exact (rfl : _ = 1) | exact (rfl : _ = 2)); exact rfl)) | (apply og_box; (apply op_boxX (tt := tt); (focus ((conv => lhs; whnf); try exact rfl)); exact rfl; (exact (rfl : _ = 0)); exact rfl)) | (apply ops_nil))) | (apply og_sat; (first | (apply sat_seq) | (apply sat_region) | (apply sat_cond_t; exact rfl; (exact rfl)) | (apply sat_ret))) | (apply pe_norm) | (apply pe_ret))
      (change fnPost _ _ _ _ _ _ _; apply fn_endN; (exact .inr rfl); (focus (repeat' (first | (apply rr_cell; exact rfl; exact rfl; exact rfl; (focus ((conv => lhs; whnf; arg 1; whnf; arg 2; whnf); try skip)); (first | exact trivial | exact Nat.le_of_ble_eq_true rfl)) | exact rr_nil))); exact rfl; (exact rfl); exact Nat.le_refl _; (focus (repeat' (first | exact trivial | refine ⟨?_, ?_⟩))); exact hso)
      exact ⟨rfl, rfl⟩
    · have c0 : (((l.map plc).length : Int) == 0) = false := by simpa using h2
      have c1 : (!decide (1 ≤ nodes ∧ nodes ≤ 64)) = true := by rw [decide_eq_false (h1.resolve_left h2)]; rfl
      repeat' (first | (apply og_ops; (first | (apply og_guard; (apply ops_guard_t; exact (rfl : _ = some _); exact (rfl : _ = PV.bool _); (assumption))) | (apply og_move; (apply op_move (tt := tt); (focus ((conv => lhs; whnf); try exact rfl)); exact rfl)) | (apply og_callv; (refine op_callP (tt := tt) cal69 (may_sat _ _) rfl rfl rfl rfl rfl ?_)) | (apply og_bin; (apply op_bin true tab; (focus ((conv => lhs; whnf; arg 1; whnf; arg 2; whnf); try exact rfl)); (exact trivial); exact rfl)) | (apply og_pick; (apply op_pick (tt := tt); exact (rfl : _ = PV.bool _); (refine .inr ⟨by assumption, ?_⟩); (focus ((conv => lhs; whnf); try exact rfl)); exact ltn rfl)) | (apply og_load; (apply op_lk; (apply lk_loadX tab; exact rfl; exact rfl; exact rfl; (focus ((conv => lhs; whnf; arg 1; whnf; arg 2; whnf); try skip)); (exact trivial)); (intro c h; cases h); exact rfl)) | (apply og_callb; (apply op_len tab; (focus ((conv => lhs; whnf; arg 1; whnf; arg 2; whnf); try exact rfl)); (exact trivial); exact rfl)) | (apply og_un; (apply op_un (tt := tt) true; (focus ((conv => lhs; whnf; arg 1; whnf; arg 2; whnf); try exact rfl)); (exact trivial); exact rfl)) | (apply og_store; (apply op_storeX tab; exact rfl; exact rfl; exact rfl; exact rfl; exact rfl; exact rfl; exact rfl; exact rfl)) | (apply og_build; (apply op_lk; (apply lk_build tab; exact rfl; (focus ((conv => lhs; whnf; arg 1; whnf; arg 2; whnf); try skip))); (intro c h; cases h); exact rfl)) | (apply og_alloc; (apply op_allocX tab; exact rfl; exact rfl; (first | exact (rfl : _ = 1) | exact (rfl : _ = 2)); exact rfl)) | (apply og_box; (apply op_boxX (tt := tt); (focus ((conv => lhs; whnf); try exact rfl)); exact rfl; (exact (rfl : _ = 0)); exact rfl)) | (apply ops_nil))) | (apply og_sat; (first | (apply sat_seq) | (apply sat_region) | (apply sat_cond_t; exact rfl; (assumption)) | (apply sat_ret))) | (apply pe_norm) | (apply pe_ret))
      (change fnPost _ _ _ _ _ _ _; apply fn_endN; (exact .inr rfl); (focus (repeat' (first | (apply rr_cell; exact rfl; exact rfl; exact rfl; (focus ((conv => lhs; whnf; arg 1; whnf; arg 2; whnf); try skip)); (first | exact trivial | exact Nat.le_of_ble_eq_true rfl)) | exact rr_nil))); exact rfl; (exact rfl); exact Nat.le_refl _; (focus (repeat' (first | exact trivial | refine ⟨?_, ?_⟩))); exact hso)
      exact ⟨rfl, rfl⟩
  · have h2 : l ≠ [] := fun e => h1 (.inl e)
    have h3 : 1 ≤ nodes ∧ nodes ≤ 64 := Classical.byContradiction fun e => h1 (.inr e)
    have hpos : 0 < l.length := List.length_pos_iff.2 h2
    have c0 : (((l.map plc).length : Int) == 0) = false := by simpa using h2
    have c1 : (!decide (1 ≤ nodes ∧ nodes ≤ 64)) = false := by simpa using h3
    repeat' (first | (apply og_ops; (first | (apply og_guard; (apply ops_guard_t; exact (rfl : _ = some _); exact (rfl : _ = PV.bool _); (assumption))) | (apply og_move; (apply op_move (tt := tt); (focus ((conv => lhs; whnf); try exact rfl)); exact rfl)) | (apply og_callv; (refine op_callP (tt := tt) cal69 (may_sat _ _) rfl rfl rfl rfl rfl ?_)) | (apply og_bin; (apply op_bin true tab; (focus ((conv => lhs; whnf; arg 1; whnf; arg 2; whnf); try exact rfl)); (exact trivial); exact rfl)) | (apply og_pick; (apply op_pick (tt := tt); exact (rfl : _ = PV.bool _); (refine .inr ⟨by assumption, ?_⟩); (focus ((conv => lhs; whnf); try exact rfl)); exact ltn rfl)) | (apply og_load; (first | (apply op_lk; (apply lk_loadX tab; exact rfl; exact rfl; exact rfl; (focus ((conv => lhs; whnf; arg 1; whnf; arg 2; whnf); try skip)); (exact trivial)); (intro c h; cases h); exact rfl) | (apply op_load tab; (focus ((conv => lhs; whnf; arg 1; whnf; arg 2; whnf); try skip)); (exact trivial); exact rfl))) | (apply og_callb; (apply op_len tab; (focus ((conv => lhs; whnf; arg 1; whnf; arg 2; whnf); try exact rfl)); (exact trivial); exact rfl)) | (apply og_indexAddr; (refine op_indexMap (tI := 3) _ tab rfl (by (focus ((conv => lhs; whnf); try exact rfl))) (by (focus ((conv => lhs; whnf); try exact rfl))) rfl (by (omega)) (by (omega)) (by (focus ((conv => lhs; whnf); try exact rfl))) (ltn rfl) ?_)) | (apply og_fieldAddr; (apply op_lk; (apply lk_fieldAddrC tab; exact rfl; (focus ((conv => lhs; whnf); try exact rfl)); exact rfl; exact rfl; (focus ((conv => lhs; whnf); try exact rfl))); (intro c h; cases h); exact rfl)) | (apply og_un; (apply op_un (tt := tt) true; (focus ((conv => lhs; whnf; arg 1; whnf; arg 2; whnf); try exact rfl)); (exact trivial); exact rfl)) | (apply og_store; (apply op_storeX tab; exact rfl; exact rfl; exact rfl; exact rfl; exact rfl; exact rfl; exact rfl; exact rfl)) | (apply og_makeFunc; (apply op_lk; (apply lk_makeFunc (tt := tt); exact rfl; exact rfl; (focus ((conv => lhs; whnf); try exact rfl))); (intro c h; cases h); exact rfl)) | (apply og_alloc; (apply op_allocX tab; exact rfl; exact rfl; (first | exact (rfl : _ = 1) | exact (rfl : _ = 2) | exact (rfl : _ = 3)); exact rfl)) | (apply og_box; (apply op_boxX (tt := tt); (focus ((conv => lhs; whnf); try exact rfl)); exact rfl; (exact (rfl : _ = 0)); exact rfl)) | (apply ops_nil))) | (apply og_sat; (first | (apply sat_seq) | (apply sat_region) | (apply sat_cond_f; exact rfl; (assumption)) | (apply sat_skip))) | (apply pe_norm))
    generalize hr0 : (l.getD (Int.toNat 0) default).1 = r0
    have hr0' : (l.getD 0 default).1 = r0 := hr0
    refine op_callP (tt := tt) cal75 (containsFuncPl_sat (fun p => p.1 != r0) l hl _ cal76 (fun x _ => next1_sat x _ r0 _ (getX 3)) rfl) rfl rfl rfl rfl rfl ?_
    cases hany : l.any (fun p => p.1 != r0)
    · have hN : nextP l nodes live = match (ringP (max ((l.getD (l.length - 1) default).2.tmod nodes) 0) nodes live).find? (fun n => !decide ((r0, n) ∈ l)) with | some n => ((r0, n), 0) | none => ((0, 0), 10) := by
        rw [nextP, if_neg h1, hr0', hany]; rfl
      have hz : nodes ≠ 0 := by omega
      repeat' (first | (apply og_ops; (first | (apply og_move; (apply op_move (tt := tt); (focus ((conv => lhs; whnf); try exact rfl)); exact rfl)) | (apply og_assign; (apply op_assign (tt := tt); (focus ((conv => lhs; whnf); try exact rfl)); exact rfl)) | (apply og_bin; (apply op_bin true tab; (focus ((conv => lhs; whnf; arg 1; whnf; arg 2; whnf); try exact rfl)); (first | omega | (simp only [decide_eq_true_eq, decide_eq_false_iff_not, List.length_map, InR, ne_eq] at *; omega)); exact rfl)) | (apply og_load; (first | (apply op_lk; (apply lk_loadX tab; exact rfl; exact rfl; exact rfl; (focus ((conv => lhs; whnf; arg 1; whnf; arg 2; whnf); try skip)); (exact trivial)); (intro c h; cases h); exact rfl) | (apply op_load tab; (focus ((conv => lhs; whnf; arg 1; whnf; arg 2; whnf); try skip)); (exact trivial); exact rfl))) | (apply og_callb; (first | (apply op_len tab; (focus ((conv => lhs; whnf; arg 1; whnf; arg 2; whnf); try exact rfl)); (exact trivial); exact rfl) | (apply op_max (tt := tt); (focus ((conv => lhs; whnf; arg 1; whnf; arg 2; whnf); try exact rfl)); (exact trivial); exact rfl))) | (apply og_indexAddr; (refine op_indexMap (tI := 3) _ tab rfl (by (focus ((conv => lhs; whnf); try exact rfl))) (by (focus ((conv => lhs; whnf); try exact rfl))) rfl (by (simp only [List.length_map, List.length_cons, List.length_append, List.length_nil]; omega)) (by (simp only [List.length_map, List.length_cons, List.length_append, List.length_nil]; omega)) (by (focus ((conv => lhs; whnf); try exact rfl))) (ltn rfl) ?_)) | (apply og_fieldAddr; (apply op_lk; (apply lk_fieldAddrC tab; exact rfl; (focus ((conv => lhs; whnf); try exact rfl)); exact rfl; exact rfl; (focus ((conv => lhs; whnf); try exact rfl))); (intro c h; cases h); exact rfl)) | (apply ops_nil))) | (apply og_sat; (first | (apply sat_seq) | (apply sat_region) | (apply sat_cond_f; exact rfl; (exact rfl)) | (apply sat_skip))) | (apply pe_norm))
      have hlst : ((((l.map plc).length : Nat) : Int) - 1).toNat = l.length - 1 := by simp
      rw [hlst]
      rw [hN]
      generalize hfrom : max ((l.getD (l.length - 1) default).2.tmod nodes) 0 = from0
      refine op_call0 (tt := tt) (hc := ring_satX from0 nodes live σ _ 4 rfl) cal77 rfl rfl rfl rfl rfl ?_
      rintro _ _ ⟨rfl, rfl⟩
      repeat' (first | (apply og_ops; (apply ops_nil)) | (apply og_sat; (apply sat_block)) | (apply pe_norm))
      refine sat_sto (σ' := σ ++ [.cells [.sl .sh 2 (l.map plc)], .cells [.int .i64 0, .int .i64 0], .cells [.int .i64 0], .cells [.int .i64 r0], .cells [.int .i64 from0], .cells [.int .i64 nodes], .cells [.sl .sh 1 (live.map .bool)]]) (by rw [← hr0]; rfl) ?_
      refine sat_range (tt := tt) [(3, .ptr (σ.length + 0) 0), (6, .ptr (σ.length + 1) 0), (7, .ptr (σ.length + 2) 0), (8, .ptr (σ.length + 3) 0)] cal85 rfl (SubL.at ⟨⟨rfl, rfl⟩, ⟨rfl, rfl⟩, ⟨rfl, rfl⟩, ⟨rfl, rfl⟩, trivial⟩) rfl fun rcd hsz hpar has hbody => ?_
      generalize hE0 : [(3, PV.ptr (σ.length + 0) 0), (6, PV.ptr (σ.length + 1) 0), (7, PV.ptr (σ.length + 2) 0), (8, PV.ptr (σ.length + 3) 0)] = E0
      have hi : (σ ++ [Ent.cells [PV.sl .sh 2 (l.map plc)], .cells [.int .i64 0, .int .i64 0], .cells [.int .i64 0], .cells [.int .i64 r0], .cells [.int .i64 from0], .cells [.int .i64 nodes], .cells [.sl .sh 1 (live.map .bool)]]).length = σ.length + 7 := by simp
      have hJ0 : (σ ++ [Ent.cells [PV.sl .sh 2 (l.map plc)], .cells [.int .i64 0, .int .i64 0], .cells [.int .i64 0], .cells [.int .i64 r0], .cells [.int .i64 from0], .cells [.int .i64 nodes], .cells [.sl .sh 1 (live.map .bool)]]) ++ [.loop .ready none rcd E0] =
          σ ++ [.cells [.sl .sh 2 (l.map plc)], .cells [.int .i64 0, .int .i64 0], .cells [.int .i64 0], .cells [.int .i64 r0], .cells [.int .i64 from0], .cells [.int .i64 nodes], .cells [.sl .sh 1 (live.map .bool)], .loop .ready none rcd E0] := by rw [List.append_assoc]; rfl
      rw [hi, hJ0]
      generalize hxs : ringP from0 nodes live = xs
      refine ⟨_, ring_seq from0 nodes live (σ.length + 4) (σ.length + 5) (σ.length + 6) (σ ++ [Ent.cells [PV.sl .sh 2 (l.map plc)], .cells [.int .i64 0, .int .i64 0], .cells [.int .i64 0], .cells [.int .i64 r0], .cells [.int .i64 from0], .cells [.int .i64 nodes], .cells [.sl .sh 1 (live.map .bool)]]) (getX 4) (getX 5) (getX 6) (σ.length + 7)
        (fun pre s => s = σ ++ [.cells [.sl .sh 2 (l.map plc)], .cells [.int .i64 0, .int .i64 0], .cells [.int .i64 0], .cells [.int .i64 r0], .cells [.int .i64 from0], .cells [.int .i64 nodes], .cells [.sl .sh 1 (live.map .bool)], .loop .ready none rcd E0] ∧ ∀ v ∈ pre, (r0, v) ∈ l)
        (fun s => ∃ v, xs.find? (fun n => !decide ((r0, n) ∈ l)) = some v ∧ s = σ ++ [.cells [.sl .sh 2 (l.map plc)], .cells [.int .i64 r0, .int .i64 v], .cells [.int .i64 0], .cells [.int .i64 r0], .cells [.int .i64 from0], .cells [.int .i64 nodes], .cells [.sl .sh 1 (live.map .bool)], .loop .done (some .ret) rcd E0])
        _ ?_ ?_ ⟨rfl, fun v hv => by cases hv⟩, ?_⟩
      · rintro k s ⟨rfl, _⟩ j e he
        rw [← hJ0]; exact getL he
      · rintro pre v suf s hx ⟨rfl, hpre⟩
        rw [hxs] at hx
        refine yield_of (getX 7) hsz (by rw [hpar]; rfl) (by rw [hpar]; decide) (by simp [PV.isS]) fun l0 => ?_
        rw [has, hbody, hpar, ← hE0]
        repeat' (first | (apply og_ops; (first | (apply og_assign; (apply op_assign (tt := tt); (focus ((conv => lhs; whnf); try exact rfl)); exact rfl)) | (apply ops_nil))) | (apply og_sat; (apply sat_region)))
        refine ⟨rfl, rfl, ?_⟩
        rw [setX]
        repeat' (first | (apply og_ops; (first | (apply og_move; (apply op_move (tt := tt); (focus ((conv => lhs; whnf); try exact rfl)); exact rfl)) | (apply og_load; (apply op_lk; (apply lk_loadX tab; exact rfl; exact rfl; exact rfl; (focus ((conv => lhs; whnf; arg 1; whnf; arg 2; whnf); try skip)); (exact trivial)); (intro c h; cases h); exact rfl)) | (apply og_build; (apply op_lk; (apply lk_build tab; exact rfl; (focus ((conv => lhs; whnf; arg 1; whnf; arg 2; whnf); try skip))); (intro c h; cases h); exact rfl)))) | (apply og_sat; (first | (apply sat_seq) | (apply sat_region) | (apply sat_block))))
        refine op_callP (tt := tt) cal78 (containsPl_sat l (r0, v) hl _) rfl rfl rfl rfl rfl ?_
        cases hc : decide ((r0, v) ∈ l)
        · repeat' (first | (apply og_ops; (first | (apply og_move; (apply op_move (tt := tt); (focus ((conv => lhs; whnf); try exact rfl)); exact rfl)) | (apply og_load; (apply op_lk; (apply lk_loadX tab; exact rfl; exact rfl; exact rfl; (focus ((conv => lhs; whnf; arg 1; whnf; arg 2; whnf); try skip)); (exact trivial)); (intro c h; cases h); exact rfl)) | (apply og_un; (apply op_un (tt := tt) true; (focus ((conv => lhs; whnf; arg 1; whnf; arg 2; whnf); try exact rfl)); (exact trivial); exact rfl)) | (apply og_store; (apply op_storeX tab; exact rfl; exact rfl; exact rfl; exact rfl; exact rfl; exact rfl; exact rfl; exact rfl)) | (apply og_build; (apply op_lk; (apply lk_build tab; exact rfl; (focus ((conv => lhs; whnf; arg 1; whnf; arg 2; whnf); try skip))); (intro c h; cases h); exact rfl)) | (apply ops_nil))) | (apply og_sat; (first | (apply sat_seq) | (apply sat_region) | (apply sat_cond_t; exact rfl; (exact rfl)) | (apply sat_ret))) | (apply pe_norm) | (apply pb_ret))
          refine ⟨getX 7, ?_⟩
          refine .inr ⟨rfl, v, ?_, ?_⟩
          · rw [hx, List.find?_append]
            have : pre.find? (fun n => !decide ((r0, n) ∈ l)) = none := by
              rw [List.find?_eq_none]; intro x hx'; simp [hpre x hx']
            rw [this]; simp [hc]
          · rw [setX, hE0]; rfl
        · repeat' (first | (apply og_ops; (first | (apply og_un; (apply op_un (tt := tt) true; (focus ((conv => lhs; whnf; arg 1; whnf; arg 2; whnf); try exact rfl)); (exact trivial); exact rfl)) | (apply ops_nil))) | (apply og_sat; (first | (apply sat_cond_f; exact rfl; (exact rfl)) | (apply sat_skip))) | (apply pe_norm) | (apply pb_norm))
          refine ⟨getX 7, ?_⟩
          refine .inl ⟨rfl, by rw [setX, hE0]; rfl, fun x hx' => ?_⟩
          rcases List.mem_append.1 hx' with h | h
          · exact hpre x h
          · rw [List.mem_singleton.1 h]; exact of_decide_eq_true hc
      · rw [hxs]
        rintro r s' (⟨rfl, hall⟩ | ⟨v, hv, rfl⟩)
        · refine ⟨.ready, none, getX 7, by decide, ?_⟩
          simp only
          rw [setX]
          have hf : xs.find? (fun n => !decide ((r0, n) ∈ l)) = none := by
            rw [List.find?_eq_none]; intro x hx'; simp [hall x hx']
          rw [hf]
          repeat' (first | (apply og_ops; (first | (apply og_store; (apply op_storeX tab; exact rfl; exact rfl; exact rfl; exact rfl; exact rfl; exact rfl; exact rfl; exact rfl)) | (apply og_build; (apply op_lk; (apply lk_build tab; exact rfl; (focus ((conv => lhs; whnf; arg 1; whnf; arg 2; whnf); try skip))); (intro c h; cases h); exact rfl)) | (apply ops_nil))) | (apply og_sat; (first | (apply sat_seq) | (apply sat_region) | (apply sat_ret))) | (apply pe_norm) | (apply pb_norm))
          (change fnPost _ _ _ _ _ _ _; apply fn_endN; (exact .inr rfl); (focus (repeat' (first | (apply rr_cell; exact rfl; exact rfl; exact rfl; (focus ((conv => lhs; whnf; arg 1; whnf; arg 2; whnf); try skip)); (first | exact trivial | exact Nat.le_of_ble_eq_true rfl)) | exact rr_nil))); exact rfl; (exact rfl); exact Nat.le_refl _; (focus (repeat' (first | exact trivial | refine ⟨?_, ?_⟩))); exact hso)
          exact ⟨rfl, rfl⟩
        · refine ⟨.done, some .ret, getX 7, by decide, ?_⟩
          simp only
          rw [setX, hv]
          repeat' (first | (apply og_sat; (apply sat_ret)) | (apply pe_ret) | (apply pb_ret))
          (change fnPost _ _ _ _ _ _ _; apply fn_endN; (exact .inr rfl); (focus (repeat' (first | (apply rr_cell; exact rfl; exact rfl; exact rfl; (focus ((conv => lhs; whnf; arg 1; whnf; arg 2; whnf); try skip)); (first | exact trivial | exact Nat.le_of_ble_eq_true rfl)) | exact rr_nil))); exact rfl; (exact rfl); exact Nat.le_refl _; (focus (repeat' (first | exact trivial | refine ⟨?_, ?_⟩))); exact hso)
          exact ⟨rfl, rfl⟩
    · have hN : nextP l nodes live = ((0, 0), 1) := by
        rw [nextP, if_neg h1, hr0', hany]; rfl
      rw [hN]
      repeat' (first | (apply og_ops; (first | (apply og_store; (apply op_storeX tab; exact rfl; exact rfl; exact rfl; exact rfl; exact rfl; exact rfl; exact rfl; exact rfl)) | (apply og_build; (apply op_lk; (apply lk_build tab; exact rfl; (focus ((conv => lhs; whnf; arg 1; whnf; arg 2; whnf); try skip))); (intro c h; cases h); exact rfl)) | (apply ops_nil))) | (apply og_sat; (first | (apply sat_seq) | (apply sat_region) | (apply sat_cond_t; exact rfl; (exact rfl)) | (apply sat_ret))) | (apply pe_norm) | (apply pe_ret))
      (change fnPost _ _ _ _ _ _ _; apply fn_endN; (exact .inr rfl); (focus (repeat' (first | (apply rr_cell; exact rfl; exact rfl; exact rfl; (focus ((conv => lhs; whnf; arg 1; whnf; arg 2; whnf); try skip)); (first | exact trivial | exact Nat.le_of_ble_eq_true rfl)) | exact rr_nil))); exact rfl; (exact rfl); exact Nat.le_refl _; (focus (repeat' (first | exact trivial | refine ⟨?_, ?_⟩))); exact hso)
      exact ⟨rfl, rfl⟩

end Go.Proofs.Ytenmnbjhebmpjaa.Pv
