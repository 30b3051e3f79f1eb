/- Which commands may be, by the program itself. -/
import Derived.Test.YtbjmafbbjhoddaaLibIdxRef
namespace Go.Proofs.Ytbjmafbbjhoddaa.Pv
open Go
set_option linter.unusedVariables false
set_option linter.unusedSimpArgs false
set_option maxRecDepth 100000

def vi (z : Int) : PV := .int .i64 z

theorem indexFuncPl_sat {g : FuncId} {caps : List PV} (p : Int × Int → Bool) (xs : List (Int × Int)) (hl : xs.length ≤ 9223372036854775807) (σ : Sto) (hg : Callable Try.prog g) (hf : ∀ x ∈ xs, SatCall Try.prog g (plc x :: caps) σ fun r σ' => r = .bool (p x) ∧ σ' = σ) (htup : (caps.all fun p => !p.isTup) = true) :
    SatCall Try.prog 94 [.sl .sh 2 (xs.map plc), .fn (.func g) [] caps] σ fun x σ' => x = .int .i64 (idxI p xs) ∧ σ' = σ := by
  refine sat_fn tab Try.func94 rfl (Nat.le_of_ble_eq_true rfl) (by decide) fun hso => ?_
  repeat' (first | (apply og_ops; (first | (apply og_move; (apply op_move (tt := tt); (focus ((conv => lhs; whnf); try exact rfl)); exact rfl)) | (apply og_assign; (apply op_assign (tt := tt); (focus ((conv => lhs; whnf); try exact rfl)); exact rfl)) | (apply og_callb; (apply op_len tab; (focus ((conv => lhs; whnf; arg 1; whnf; arg 2; whnf); try exact rfl)); (exact trivial); exact rfl)) | (apply ops_nil))) | (apply og_sat; (first | (apply sat_seq) | (apply sat_region) | (apply sat_block))) | (apply pe_norm))
  refine sat_loopW (fun i : Nat => [(0, .sl .sh 2 (xs.map plc)), (1, .fn (.func g) [] caps), (7, .int .i64 xs.length), (8, .int .i64 i)]) (fun _ => σ) (fun i => i ≤ xs.length ∧ ∀ j, j < i → p (xs.getD j default) = false) (fun i => xs.length - i) 0 ⟨Nat.zero_le _, fun j hj => by omega⟩ ?_ rfl ?_
  · (repeat' (first | exact trivial | exact Wk.same _ | (refine Wk.eq ?_; (conv => rhs; whnf); simp <;> fail) | refine ⟨?_, ?_⟩))
  rintro i ⟨hi, hno⟩
  rcases Nat.lt_or_ge i xs.length with hlt | hge
  · have c1 : decide ((i : Int) < (xs.length : Int)) = true := by simp; omega
    repeat' (first | (apply og_ops; (first | (apply og_move; (apply op_move (tt := tt); (focus ((conv => lhs; whnf); try exact rfl)); exact rfl)) | (apply og_assign; (apply op_assign (tt := tt); (focus ((conv => lhs; whnf); try exact rfl)); exact rfl)) | (apply og_bin; (apply op_bin true tab; (focus ((conv => lhs; whnf; arg 1; whnf; arg 2; whnf); try exact rfl)); (exact trivial); exact rfl)) | (apply og_load; (apply op_load tab; (focus ((conv => lhs; whnf; arg 1; whnf; arg 2; whnf); try skip)); (exact Nat.le_of_ble_eq_true rfl); exact rfl)) | (apply og_indexAddr; (refine op_indexMap (tI := 3) _ tab rfl (by (focus ((conv => lhs; whnf); try exact rfl))) (by (focus ((conv => lhs; whnf); try exact rfl))) rfl (by (omega)) (by (omega)) (by (focus ((conv => lhs; whnf); try exact rfl))) (ltn rfl) ?_)) | (apply ops_nil))) | (apply og_sat; (first | (apply sat_seq) | (apply sat_region) | (apply sat_cond_t; exact rfl; (assumption)) | (apply sat_skip) | (apply sat_block))) | (apply pe_norm))
    refine op_callF (tt := tt) hg (hf _ (getD_memL hlt)) rfl rfl rfl (by simpa [PV.isTup, plc] using htup) rfl ?_
    repeat' (first | (apply og_ops; (first | (apply og_move; (apply op_move (tt := tt); (focus ((conv => lhs; whnf); try exact rfl)); exact rfl)) | (apply og_assign; (apply op_assign (tt := tt); (focus ((conv => lhs; whnf); try exact rfl)); exact rfl)) | (apply og_bin; (apply op_bin true tab; (focus ((conv => lhs; whnf; arg 1; whnf; arg 2; whnf); try exact rfl)); (simp only [InR]; omega); exact rfl)) | (apply ops_nil))) | (apply og_sat; (first | (apply sat_seq) | (apply sat_region) | (apply sat_cond; exact (rfl : _ = PV.bool _); all_goals intro hb) | (apply sat_skip) | (apply sat_ret))) | (apply pe_norm) | (apply pe_ret) | (apply pb_norm) | (apply pb_ret))
    · (change fnPost _ _ _ _ _ _ _; apply fn_endN; (exact .inr rfl); (focus (repeat' (first | (apply rr_tmp; (focus ((conv => lhs; whnf); try exact rfl)); (exact Wk.same _)) | exact rr_nil))); exact rfl; (exact (List.append_nil _).symm); exact Nat.le_refl _; (focus (repeat' (first | exact trivial | refine ⟨?_, ?_⟩))); exact hso)
      exact ⟨by rw [idx_hit hlt hno hb]; rfl, rfl⟩
    · refine ⟨i + 1, ⟨by omega, fun j hj => ?_⟩, by omega, ?_, rfl⟩
      · by_cases e : j = i
        · subst e; exact hb
        · exact hno j (by omega)
      · (repeat' (first | exact trivial | exact Wk.same _ | refine ⟨?_, ?_⟩))
  · have c1 : decide ((i : Int) < (xs.length : Int)) = false := by simp; omega
    repeat' (first | (apply og_ops; (first | (apply og_assign; (apply op_assign (tt := tt); (focus ((conv => lhs; whnf); try exact rfl)); exact rfl)) | (apply og_bin; (apply op_bin true tab; (focus ((conv => lhs; whnf; arg 1; whnf; arg 2; whnf); try exact rfl)); (exact trivial); exact rfl)) | (apply ops_nil))) | (apply og_sat; (first | (apply sat_seq) | (apply sat_region) | (apply sat_cond_f; exact rfl; (assumption)) | (apply sat_ret) | (apply sat_exit))) | (apply pe_norm) | (apply pe_exit) | (apply pb_same))
    (change fnPost _ _ _ _ _ _ _; apply fn_endN; (exact .inr rfl); (focus (repeat' (first | (apply rr_tmp; (focus ((conv => lhs; whnf); try exact rfl)); (exact Wk.same _)) | exact rr_nil))); exact rfl; (exact (List.append_nil _).symm); exact Nat.le_refl _; (focus (repeat' (first | exact trivial | refine ⟨?_, ?_⟩))); exact hso)
    exact ⟨by rw [idx_none fun j hj => hno j (by omega)]; rfl, rfl⟩


theorem indexFuncZ_sat {g : FuncId} {caps : List PV} (p : Int → Bool) (xs : List (Int)) (hl : xs.length ≤ 9223372036854775807) (σ : Sto) (hg : Callable Try.prog g) (hf : ∀ x ∈ xs, SatCall Try.prog g (vi x :: caps) σ fun r σ' => r = .bool (p x) ∧ σ' = σ) (htup : (caps.all fun p => !p.isTup) = true) :
    SatCall Try.prog 95 [.sl .sh 1 (xs.map vi), .fn (.func g) [] caps] σ fun x σ' => x = .int .i64 (idxI p xs) ∧ σ' = σ := by
  refine sat_fn tab Try.func95 rfl (Nat.le_of_ble_eq_true rfl) (by decide) fun hso => ?_
  repeat' (first | (apply og_ops; (first | (apply og_move; (apply op_move (tt := tt); (focus ((conv => lhs; whnf); try exact rfl)); exact rfl)) | (apply og_assign; (apply op_assign (tt := tt); (focus ((conv => lhs; whnf); try exact rfl)); exact rfl)) | (apply og_callb; (apply op_len tab; (focus ((conv => lhs; whnf; arg 1; whnf; arg 2; whnf); try exact rfl)); (exact trivial); exact rfl)) | (apply ops_nil))) | (apply og_sat; (first | (apply sat_seq) | (apply sat_region) | (apply sat_block))) | (apply pe_norm))
  refine sat_loopW (fun i : Nat => [(0, .sl .sh 1 (xs.map vi)), (1, .fn (.func g) [] caps), (7, .int .i64 xs.length), (8, .int .i64 i)]) (fun _ => σ) (fun i => i ≤ xs.length ∧ ∀ j, j < i → p (xs.getD j default) = false) (fun i => xs.length - i) 0 ⟨Nat.zero_le _, fun j hj => by omega⟩ ?_ rfl ?_
  · (repeat' (first | exact trivial | exact Wk.same _ | (refine Wk.eq ?_; (conv => rhs; whnf); simp <;> fail) | refine ⟨?_, ?_⟩))
  rintro i ⟨hi, hno⟩
  rcases Nat.lt_or_ge i xs.length with hlt | hge
  · have c1 : decide ((i : Int) < (xs.length : Int)) = true := by simp; omega
    repeat' (first | (apply og_ops; (first | (apply og_move; (apply op_move (tt := tt); (focus ((conv => lhs; whnf); try exact rfl)); exact rfl)) | (apply og_assign; (apply op_assign (tt := tt); (focus ((conv => lhs; whnf); try exact rfl)); exact rfl)) | (apply og_bin; (apply op_bin true tab; (focus ((conv => lhs; whnf; arg 1; whnf; arg 2; whnf); try exact rfl)); (exact trivial); exact rfl)) | (apply og_load; (apply op_load tab; (focus ((conv => lhs; whnf; arg 1; whnf; arg 2; whnf); try skip)); (exact trivial); exact rfl)) | (apply og_indexAddr; (refine op_indexMap (tI := 3) _ tab rfl (by (focus ((conv => lhs; whnf); try exact rfl))) (by (focus ((conv => lhs; whnf); try exact rfl))) rfl (by (omega)) (by (omega)) (by (focus ((conv => lhs; whnf); try exact rfl))) (ltn rfl) ?_)) | (apply ops_nil))) | (apply og_sat; (first | (apply sat_seq) | (apply sat_region) | (apply sat_cond_t; exact rfl; (assumption)) | (apply sat_skip) | (apply sat_block))) | (apply pe_norm))
    refine op_callF (tt := tt) hg (hf _ (getD_memL hlt)) rfl rfl rfl (by simpa [PV.isTup, vi] using htup) rfl ?_
    repeat' (first | (apply og_ops; (first | (apply og_move; (apply op_move (tt := tt); (focus ((conv => lhs; whnf); try exact rfl)); exact rfl)) | (apply og_assign; (apply op_assign (tt := tt); (focus ((conv => lhs; whnf); try exact rfl)); exact rfl)) | (apply og_bin; (apply op_bin true tab; (focus ((conv => lhs; whnf; arg 1; whnf; arg 2; whnf); try exact rfl)); (simp only [InR]; omega); exact rfl)) | (apply ops_nil))) | (apply og_sat; (first | (apply sat_seq) | (apply sat_region) | (apply sat_cond; exact (rfl : _ = PV.bool _); all_goals intro hb) | (apply sat_skip) | (apply sat_ret))) | (apply pe_norm) | (apply pe_ret) | (apply pb_norm) | (apply pb_ret))
    · (change fnPost _ _ _ _ _ _ _; apply fn_endN; (exact .inr rfl); (focus (repeat' (first | (apply rr_tmp; (focus ((conv => lhs; whnf); try exact rfl)); (exact Wk.same _)) | exact rr_nil))); exact rfl; (exact (List.append_nil _).symm); exact Nat.le_refl _; (focus (repeat' (first | exact trivial | refine ⟨?_, ?_⟩))); exact hso)
      exact ⟨by rw [idx_hit hlt hno hb]; rfl, rfl⟩
    · refine ⟨i + 1, ⟨by omega, fun j hj => ?_⟩, by omega, ?_, rfl⟩
      · by_cases e : j = i
        · subst e; exact hb
        · exact hno j (by omega)
      · (repeat' (first | exact trivial | exact Wk.same _ | refine ⟨?_, ?_⟩))
  · have c1 : decide ((i : Int) < (xs.length : Int)) = false := by simp; omega
    repeat' (first | (apply og_ops; (first | (apply og_assign; (apply op_assign (tt := tt); (focus ((conv => lhs; whnf); try exact rfl)); exact rfl)) | (apply og_bin; (apply op_bin true tab; (focus ((conv => lhs; whnf; arg 1; whnf; arg 2; whnf); try exact rfl)); (exact trivial); exact rfl)) | (apply ops_nil))) | (apply og_sat; (first | (apply sat_seq) | (apply sat_region) | (apply sat_cond_f; exact rfl; (assumption)) | (apply sat_ret) | (apply sat_exit))) | (apply pe_norm) | (apply pe_exit) | (apply pb_same))
    (change fnPost _ _ _ _ _ _ _; apply fn_endN; (exact .inr rfl); (focus (repeat' (first | (apply rr_tmp; (focus ((conv => lhs; whnf); try exact rfl)); (exact Wk.same _)) | exact rr_nil))); exact rfl; (exact (List.append_nil _).symm); exact Nat.le_refl _; (focus (repeat' (first | exact trivial | refine ⟨?_, ?_⟩))); exact hso)
    exact ⟨by rw [idx_none fun j hj => hno j (by omega)]; rfl, rfl⟩


theorem idxI_any {α : Type} {p : α → Bool} {xs : List α} : decide (0 ≤ idxI p xs) = xs.any p := by
  rcases idx_cases p xs with ⟨e, h⟩ | ⟨q, y, e1, e2, e3, e4⟩
  · rw [e, List.any_eq_false.2 fun y hy => by rw [h y hy]; exact Bool.false_ne_true]; rfl
  · rw [e1, List.any_eq_true.2 ⟨y, List.mem_of_getElem? e2, e3⟩, decide_eq_true (Int.natCast_nonneg q)]

theorem containsFPl_sat {g : FuncId} {caps : List PV} (p : Int × Int → Bool) (xs : List (Int × Int)) (hl : xs.length ≤ 1048576) (σ : Sto) (hg : Callable Try.prog g) (hf : ∀ x ∈ xs, SatCall Try.prog g (plc x :: caps) σ fun r σ' => r = .bool (p x) ∧ σ' = σ) (htup : (caps.all fun p => !p.isTup) = true) :
    SatCall Try.prog 66 [.sl .sh 2 (xs.map plc), .fn (.func g) [] caps] σ fun x σ' => x = .bool (xs.any p) ∧ σ' = σ := by
  refine sat_fn tab Try.func66 rfl (Nat.le_of_ble_eq_true rfl) (by decide) fun hso => ?_
  rw [← idxI_any]
  repeat' (first | (apply og_ops; (first | (apply og_move; (apply op_move (tt := tt); (focus ((conv => lhs; whnf); try exact rfl)); exact rfl)) | (apply og_assign; (apply op_assign (tt := tt); (focus ((conv => lhs; whnf); try exact rfl)); exact rfl)) | (apply ops_nil))) | (apply og_sat; (first | (apply sat_seq) | (apply sat_region))) | (apply pe_norm))
  refine op_callP (tt := tt) cal94 (indexFuncPl_sat p xs (by omega) _ hg hf htup) rfl rfl rfl rfl rfl ?_
  repeat' (first | (apply og_ops; (first | (apply og_assign; (apply op_assign (tt := tt); (focus ((conv => lhs; whnf); try exact rfl)); exact rfl)) | (apply og_bin; (apply op_bin true tab; (focus ((conv => lhs; whnf; arg 1; whnf; arg 2; whnf); try exact rfl)); (exact trivial); exact rfl)) | (apply ops_nil))) | (apply og_sat; (apply sat_ret)) | (apply pe_norm))
  (change fnPost _ _ _ _ _ _ _; apply fn_endN; (exact .inr rfl); (focus (repeat' (first | (apply rr_tmp; (focus ((conv => lhs; whnf); try exact rfl)); (exact Wk.same _)) | exact rr_nil))); exact rfl; (exact (List.append_nil _).symm); exact Nat.le_refl _; (focus (repeat' (first | exact trivial | refine ⟨?_, ?_⟩))); exact hso)
  exact ⟨rfl, rfl⟩
theorem containsFZ_sat {g : FuncId} {caps : List PV} (p : Int → Bool) (xs : List Int) (hl : xs.length ≤ 1048576) (σ : Sto) (hg : Callable Try.prog g) (hf : ∀ x ∈ xs, SatCall Try.prog g (vi x :: caps) σ fun r σ' => r = .bool (p x) ∧ σ' = σ) (htup : (caps.all fun p => !p.isTup) = true) :
    SatCall Try.prog 67 [.sl .sh 1 (xs.map vi), .fn (.func g) [] caps] σ fun x σ' => x = .bool (xs.any p) ∧ σ' = σ := by
  refine sat_fn tab Try.func67 rfl (Nat.le_of_ble_eq_true rfl) (by decide) fun hso => ?_
  rw [← idxI_any]
  repeat' (first | (apply og_ops; (first | (apply og_move; (apply op_move (tt := tt); (focus ((conv => lhs; whnf); try exact rfl)); exact rfl)) | (apply og_assign; (apply op_assign (tt := tt); (focus ((conv => lhs; whnf); try exact rfl)); exact rfl)) | (apply ops_nil))) | (apply og_sat; (first | (apply sat_seq) | (apply sat_region))) | (apply pe_norm))
  refine op_callP (tt := tt) cal95 (indexFuncZ_sat p xs (by omega) _ hg hf htup) rfl rfl rfl rfl rfl ?_
  repeat' (first | (apply og_ops; (first | (apply og_assign; (apply op_assign (tt := tt); (focus ((conv => lhs; whnf); try exact rfl)); exact rfl)) | (apply og_bin; (apply op_bin true tab; (focus ((conv => lhs; whnf; arg 1; whnf; arg 2; whnf); try exact rfl)); (exact trivial); exact rfl)) | (apply ops_nil))) | (apply og_sat; (apply sat_ret)) | (apply pe_norm))
  (change fnPost _ _ _ _ _ _ _; apply fn_endN; (exact .inr rfl); (focus (repeat' (first | (apply rr_tmp; (focus ((conv => lhs; whnf); try exact rfl)); (exact Wk.same _)) | exact rr_nil))); exact rfl; (exact (List.append_nil _).symm); exact Nat.le_refl _; (focus (repeat' (first | exact trivial | refine ⟨?_, ?_⟩))); exact hso)
  exact ⟨rfl, rfl⟩

theorem smallI_sat (n : Int) (σ : Sto) : SatCall Try.prog 65 [.int .i64 n] σ fun r σ' => r = .bool (smallP n) ∧ σ' = σ := by
  refine sat_fn tab Try.func65 rfl (Nat.le_of_ble_eq_true rfl) (by decide) fun hso => sat_base ?_
  repeat' (first | (apply og_ops; (first | (apply og_guard; (first | (apply ops_guard_t; exact (rfl : _ = some _); exact (rfl : _ = PV.bool _); (assumption)) | (apply ops_guard_f'; exact (rfl : _ = some _); exact (rfl : _ = PV.bool _); (assumption); exact ltn rfl) | (apply ops_gsplit; exact (rfl : _ = some _); exact (rfl : _ = PV.bool _); all_goals intro hb))) | (apply og_move; (apply op_move (tt := tt); (focus ((conv => lhs; whnf); try exact rfl)); exact rfl)) | (apply og_assign; (apply op_assign (tt := tt); (focus ((conv => lhs; whnf); try exact rfl)); exact rfl)) | (apply og_bin; (apply op_bin true tab; (focus ((conv => lhs; whnf; arg 1; whnf; arg 2; whnf); try exact rfl)); (exact trivial); exact rfl)) | (apply og_pick; (apply op_pick (tt := tt); exact (rfl : _ = PV.bool _); (first | refine .inl ⟨by assumption, ?_⟩ | refine .inr ⟨by assumption, ?_⟩); (focus ((conv => lhs; whnf); try exact rfl)); exact ltn rfl)) | (apply ops_nil))) | (apply og_sat; (first | (apply sat_seq) | (apply sat_region) | (apply sat_ret))) | (apply pe_norm))
  all_goals (change fnPost _ _ _ _ _ _ _; apply fn_endN; (exact .inr rfl); (focus (repeat' (first | (apply rr_tmp; (focus ((conv => lhs; whnf); try exact rfl)); (exact Wk.same _)) | exact rr_nil))); exact rfl; (exact rfl); exact Nat.le_refl _; (focus (repeat' (first | exact trivial | refine ⟨?_, ?_⟩))); exact hso)
  all_goals refine ⟨?_, rfl⟩
  all_goals simp only [decide_eq_true_eq, decide_eq_false_iff_not] at *
  all_goals simp only [resOf, smallP, PV.bool.injEq]
  all_goals first | rfl | (symm; rw [decide_eq_false_iff_not]; omega) | (rw [decide_eq_decide]; omega)
theorem mayI2_sat (n : Int) (σ : Sto) : SatCall Try.prog 64 [vi n] σ fun r σ' => r = .bool (!smallP n) ∧ σ' = σ := by
  refine sat_fn tab Try.func64 rfl (Nat.le_of_ble_eq_true rfl) (by decide) fun hso => sat_base ?_
  have h1 := smallI_sat n
  repeat' (first | (apply og_ops; (first | (apply og_move; (apply op_move (tt := tt); (focus ((conv => lhs; whnf); try exact rfl)); exact rfl)) | (apply og_assign; (apply op_assign (tt := tt); (focus ((conv => lhs; whnf); try exact rfl)); exact rfl)) | (apply og_callv; (refine op_callP (tt := tt) cal65 (h1 _) rfl rfl rfl rfl rfl ?_)) | (apply og_un; (apply op_un (tt := tt) true; (focus ((conv => lhs; whnf; arg 1; whnf; arg 2; whnf); try exact rfl)); (exact trivial); exact rfl)) | (apply ops_nil))) | (apply og_sat; (first | (apply sat_seq) | (apply sat_region) | (apply sat_ret))) | (apply pe_norm))
  (change fnPost _ _ _ _ _ _ _; apply fn_endN; (exact .inr rfl); (focus (repeat' (first | (apply rr_tmp; (focus ((conv => lhs; whnf); try exact rfl)); (exact Wk.same _)) | exact rr_nil))); exact rfl; (exact rfl); exact Nat.le_refl _; (focus (repeat' (first | exact trivial | refine ⟨?_, ?_⟩))); exact hso)
  exact ⟨rfl, rfl⟩
theorem mayI1_sat (p : Int × Int) (σ : Sto) : SatCall Try.prog 63 [plc p] σ fun r σ' => r = .bool (!okPl p) ∧ σ' = σ := by
  refine sat_fn tab Try.func63 rfl (Nat.le_of_ble_eq_true rfl) (by decide) fun hso => sat_base ?_
  repeat' (first | (apply og_ops; (first | (apply og_guard; (first | (apply ops_guard_t; exact (rfl : _ = some _); exact (rfl : _ = PV.bool _); (assumption)) | (apply ops_guard_f'; exact (rfl : _ = some _); exact (rfl : _ = PV.bool _); (first | exact rfl | assumption); exact ltn rfl) | (apply ops_gsplit; exact (rfl : _ = some _); exact (rfl : _ = PV.bool _); all_goals intro hb))) | (apply og_move; (apply op_move (tt := tt); (focus ((conv => lhs; whnf); try exact rfl)); exact rfl)) | (apply og_assign; (apply op_assign (tt := tt); (focus ((conv => lhs; whnf); try exact rfl)); exact rfl)) | (apply og_bin; (apply op_bin true tab; (focus ((conv => lhs; whnf; arg 1; whnf; arg 2; whnf); try exact rfl)); (exact trivial); exact rfl)) | (apply og_pick; (apply op_pick (tt := tt); exact (rfl : _ = PV.bool _); (first | refine .inl ⟨rfl, ?_⟩ | refine .inl ⟨by assumption, ?_⟩ | refine .inr ⟨by assumption, ?_⟩); (focus ((conv => lhs; whnf); try exact rfl)); exact ltn rfl)) | (apply og_load; (apply op_lk; (apply lk_loadX tab; exact rfl; exact rfl; exact rfl; (focus ((conv => lhs; whnf; arg 1; whnf; arg 2; whnf); try skip)); (exact trivial)); (intro c h; cases h); exact rfl)) | (apply og_fieldAddr; (apply op_lk; (apply lk_fieldAddrB tab; exact rfl; (focus ((conv => lhs; whnf); try exact rfl)); exact rfl; (first | exact (rfl : _ = 0) | exact (rfl : _ = 1))); (intro c h; cases h); exact rfl)) | (apply og_box; (apply op_boxX (tt := tt); (focus ((conv => lhs; whnf); try exact rfl)); exact rfl; (exact (rfl : _ = 0)); exact rfl)) | (apply ops_nil))) | (apply og_sat; (first | (apply sat_seq) | (apply sat_region) | (apply sat_ret))) | (apply pe_norm))
  all_goals (change fnPost _ _ _ _ _ _ _; apply fn_endN; (exact .inr rfl); (focus (repeat' (first | (apply rr_tmp; (focus ((conv => lhs; whnf); try exact rfl)); (exact Wk.same _)) | exact rr_nil))); exact rfl; (exact rfl); exact Nat.le_refl _; (focus (repeat' (first | exact trivial | refine ⟨?_, ?_⟩))); exact hso)
  all_goals refine ⟨?_, rfl⟩
  all_goals simp only [decide_eq_true_eq, decide_eq_false_iff_not] at *
  all_goals simp only [resOf, okPl, PV.bool.injEq]
  all_goals first
    | (rw [decide_eq_false (by omega)]; rfl)
    | (rw [decide_eq_true (by omega)]; rfl)
    | (rw [Bool.eq_iff_iff]; simp only [decide_eq_true_eq, Bool.not_eq_true', decide_eq_false_iff_not]; omega)

set_option maxHeartbeats 4000000 in
theorem mayI_sat (c : Cm) (hl : c.places.length ≤ 1048576) (hn : c.name.size ≤ 1048576) (σ : Sto) : SatCall Try.prog 33 [cm c] σ fun r σ' => r = .bool (mayC c) ∧ σ' = σ := by
  refine sat_fn tab Try.func33 rfl (Nat.le_of_ble_eq_true rfl) (by decide) fun hso => sat_base ?_
  have k1 := fun σ => containsFPl_sat (g := 63) (caps := []) (fun p => !okPl p) c.places hl σ cal63 (fun p _ => mayI1_sat p σ) rfl
  have k2 := fun σ => containsFZ_sat (g := 64) (caps := []) (fun n => !smallP n) [c.vol, c.off, c.n, c.region, c.mate, c.idx] (by simp) σ cal64 (fun p _ => mayI2_sat p σ) rfl
  have e1 : c.places.any (fun p => !okPl p) = !(c.places.all okPl) := by rw [List.all_eq_not_any_not, Bool.not_not]
  have e2 : [c.vol, c.off, c.n, c.region, c.mate, c.idx].any (fun n => !smallP n) = !((smallP c.vol && smallP c.off && smallP c.n) && (smallP c.region && smallP c.mate && smallP c.idx)) := by
    simp only [List.any_cons, List.any_nil, Bool.or_false, Bool.not_and, Bool.or_assoc]
  simp only [e1] at k1
  simp only [e2] at k2
  by_cases hh : headC c = true
  · have h := of_decide_eq_true hh
    obtain ⟨⟨g1, g2⟩, ⟨g3, g4⟩, ⟨g5, g6⟩, g7, g8⟩ := h
    have c1 : decide (1 ≤ c.kind) = true := decide_eq_true (by omega)
    have c2 : decide (c.kind ≤ 9) = true := decide_eq_true (by omega)
    have c3 : decide (0 ≤ c.client) = true := decide_eq_true (by omega)
    have c4 : decide (c.client ≤ 16) = true := decide_eq_true (by omega)
    have c5 : decide (0 ≤ c.seq) = true := decide_eq_true (by omega)
    have c6 : decide (c.seq ≤ 1073741824) = true := decide_eq_true (by omega)
    have c7 : decide ((c.name.size : Int) ≤ 16) = true := decide_eq_true (by omega)
    have c8 : decide ((c.places.length : Int) ≤ 14) = true := decide_eq_true (by omega)
    have c8m : decide (((c.places.map plc).length : Int) ≤ 14) = true := by rw [List.length_map]; exact c8
    have hmc : mayC c = (((smallP c.vol && smallP c.off && smallP c.n) && (smallP c.region && smallP c.mate && smallP c.idx)) && c.places.all okPl) := by rw [mayC, hh]; rfl
    rw [hmc]
    generalize c.places.all okPl = P at *
    generalize ((smallP c.vol && smallP c.off && smallP c.n) && (smallP c.region && smallP c.mate && smallP c.idx)) = Q at *
    cases P <;> cases Q
    all_goals
      repeat' (first | (apply og_ops; (first | (apply og_guard; (first | (apply ops_guard_t; exact (rfl : _ = some _); exact (rfl : _ = PV.bool _); (first | exact rfl | assumption)) | (apply ops_guard_f'; exact (rfl : _ = some _); exact (rfl : _ = PV.bool _); (exact rfl); exact ltn rfl))) | (apply og_move; (apply op_move (tt := tt); (focus ((conv => lhs; whnf); try exact rfl)); exact rfl)) | (apply og_assign; (apply op_assign (tt := tt); (focus ((conv => lhs; whnf); try exact rfl)); exact rfl)) | (apply og_callv; (first | (refine op_callP (tt := tt) cal66 (k1 _) rfl rfl rfl rfl rfl ?_) | (refine op_callP (tt := tt) cal67 (k2 _) rfl rfl rfl rfl rfl ?_))) | (apply og_bin; (apply op_bin true tab; (focus ((conv => lhs; whnf; arg 1; whnf; arg 2; whnf); try exact rfl)); (exact trivial); exact rfl)) | (apply og_pick; (apply op_pick (tt := tt); exact (rfl : _ = PV.bool _); (first | refine .inl ⟨rfl, ?_⟩ | refine .inr ⟨rfl, ?_⟩ | refine .inl ⟨by assumption, ?_⟩); (focus ((conv => lhs; whnf); try exact rfl)); exact ltn rfl)) | (apply og_load; (apply op_lk; (apply lk_loadX tab; exact rfl; exact rfl; exact rfl; (focus ((conv => lhs; whnf; arg 1; whnf; arg 2; whnf); try skip)); (exact trivial)); (intro c h; cases h); exact rfl)) | (apply og_callb; (apply op_len tab; (focus ((conv => lhs; whnf; arg 1; whnf; arg 2; whnf); try exact rfl)); (exact trivial); exact rfl)) | (apply og_fieldAddr; (apply op_lk; (apply lk_fieldAddrB tab; exact rfl; (focus ((conv => lhs; whnf); try exact rfl)); exact rfl; (first | exact (rfl : _ = 0) | exact (rfl : _ = 1) | exact (rfl : _ = 2) | exact (rfl : _ = 3) | exact (rfl : _ = 4) | exact (rfl : _ = 5) | exact (rfl : _ = 6) | exact (rfl : _ = 8) | exact (rfl : _ = 9) | exact (rfl : _ = 10) | exact (rfl : _ = 11))); (intro c h; cases h); exact rfl)) | (apply og_un; (apply op_un (tt := tt) true; (focus ((conv => lhs; whnf; arg 1; whnf; arg 2; whnf); try exact rfl)); (exact trivial); exact rfl)) | (apply og_buildSlice; (apply op_buildSliceX .ow tab; exact rfl; (focus ((repeat (apply opvs_cons; (focus ((conv => lhs; whnf); try exact rfl)))); exact opvs_nil)); exact rfl; exact rfl; exact rfl; exact rfl; exact rfl; exact rfl)) | (apply og_box; (apply op_boxX (tt := tt); (focus ((conv => lhs; whnf); try exact rfl)); exact rfl; (exact (rfl : _ = 0)); exact rfl)) | (apply ops_nil))) | (apply og_sat; (first | (apply sat_seq) | (apply sat_region) | (apply sat_ret))) | (apply pe_norm))
      (change fnPost _ _ _ _ _ _ _; apply fn_endN; (exact .inr rfl); (focus (repeat' (first | (apply rr_tmp; (focus ((conv => lhs; whnf); try exact rfl)); (exact Wk.same _)) | exact rr_nil))); exact rfl; (exact rfl); exact Nat.le_refl _; (focus (repeat' (first | exact trivial | refine ⟨?_, ?_⟩))); exact hso)
      exact ⟨rfl, rfl⟩
  · have hh' : headC c = false := by simpa using hh
    rw [mayC_head hh']
    have h' := of_decide_eq_false hh'
    repeat' (first | (apply og_ops; (first | (apply og_guard; (first | (apply ops_guard_t; exact (rfl : _ = some _); exact (rfl : _ = PV.bool _); (assumption)) | (apply ops_guard_f'; exact (rfl : _ = some _); exact (rfl : _ = PV.bool _); (first | exact rfl | assumption); exact ltn rfl) | (apply ops_gsplit; exact (rfl : _ = some _); exact (rfl : _ = PV.bool _); all_goals intro hb))) | (apply og_move; (apply op_move (tt := tt); (focus ((conv => lhs; whnf); try exact rfl)); exact rfl)) | (apply og_assign; (apply op_assign (tt := tt); (focus ((conv => lhs; whnf); try exact rfl)); exact rfl)) | (apply og_callv; (first | (refine op_callP (tt := tt) cal66 (k1 _) rfl rfl rfl rfl rfl ?_) | (refine op_callP (tt := tt) cal67 (k2 _) rfl rfl rfl rfl rfl ?_))) | (apply og_bin; (apply op_bin true tab; (focus ((conv => lhs; whnf; arg 1; whnf; arg 2; whnf); try exact rfl)); (exact trivial); exact rfl)) | (apply og_pick; (apply op_pick (tt := tt); exact (rfl : _ = PV.bool _); (first | refine .inr ⟨rfl, ?_⟩ | refine .inl ⟨by assumption, ?_⟩ | refine .inr ⟨by assumption, ?_⟩); (focus ((conv => lhs; whnf); try exact rfl)); exact ltn rfl)) | (apply og_load; (apply op_lk; (apply lk_loadX tab; exact rfl; exact rfl; exact rfl; (focus ((conv => lhs; whnf; arg 1; whnf; arg 2; whnf); try skip)); (exact trivial)); (intro c h; cases h); exact rfl)) | (apply og_callb; (apply op_len tab; (focus ((conv => lhs; whnf; arg 1; whnf; arg 2; whnf); try exact rfl)); (exact trivial); exact rfl)) | (apply og_fieldAddr; (apply op_lk; (apply lk_fieldAddrB tab; exact rfl; (focus ((conv => lhs; whnf); try exact rfl)); exact rfl; (first | exact (rfl : _ = 0) | exact (rfl : _ = 1) | exact (rfl : _ = 2) | exact (rfl : _ = 3) | exact (rfl : _ = 4) | exact (rfl : _ = 5) | exact (rfl : _ = 6) | exact (rfl : _ = 8) | exact (rfl : _ = 9) | exact (rfl : _ = 10) | exact (rfl : _ = 11))); (intro c h; cases h); exact rfl)) | (apply og_un; (apply op_un (tt := tt) true; (focus ((conv => lhs; whnf; arg 1; whnf; arg 2; whnf); try exact rfl)); (exact trivial); exact rfl)) | (apply og_buildSlice; (apply op_buildSliceX .ow tab; exact rfl; (focus ((repeat (apply opvs_cons; (focus ((conv => lhs; whnf); try exact rfl)))); exact opvs_nil)); exact rfl; exact rfl; exact rfl; exact rfl; exact rfl; exact rfl)) | (apply og_box; (apply op_boxX (tt := tt); (focus ((conv => lhs; whnf); try exact rfl)); exact rfl; (exact (rfl : _ = 0)); exact rfl)) | (apply ops_nil))) | (apply og_sat; (first | (apply sat_seq) | (apply sat_region) | (apply sat_ret))) | (apply pe_norm))
    all_goals first
      | ((change fnPost _ _ _ _ _ _ _; apply fn_endN; (exact .inr rfl); (focus (repeat' (first | (apply rr_tmp; (focus ((conv => lhs; whnf); try exact rfl)); (exact Wk.same _)) | exact rr_nil))); exact rfl; (exact rfl); exact Nat.le_refl _; (focus (repeat' (first | exact trivial | refine ⟨?_, ?_⟩))); exact hso)
         exact ⟨rfl, rfl⟩)
      | (exfalso; simp only [decide_eq_true_eq, decide_eq_false_iff_not, List.length_map] at *; omega)

end Go.Proofs.Ytbjmafbbjhoddaa.Pv
