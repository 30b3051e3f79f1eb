/- Which indexes are the same, by the document's answer and by the program's. -/
import Derived.Test.YtbjmafbbjhoddaaLibIdxSpec
/- ENC: vl nm ss -/
namespace Go.Proofs.Ytbjmafbbjhoddaa.Pv
open Go
set_option linter.unusedVariables false
set_option linter.unusedSimpArgs false
set_option maxRecDepth 100000

theorem bytes_beqG (a b : ByteArray) : (a == b) = decide (a = b) := by
  obtain ⟨x⟩ := a
  obtain ⟨y⟩ := b
  rw [Bool.eq_iff_iff, decide_eq_true_eq, ByteArray.mk.injEq]
  exact beq_iff_eq (a := x) (b := y)
theorem take_moreG {α : Type} [Inhabited α] {xs ys : List α} {i : Nat} (h : xs.take i = ys.take i) (hx : i < xs.length) (hy : i < ys.length) (he : xs.getD i default = ys.getD i default) : xs.take (i + 1) = ys.take (i + 1) := by
  rw [List.take_succ_eq_append_getElem hx, List.take_succ_eq_append_getElem hy, h]
  simp only [List.getD, List.getElem?_eq_getElem hx, List.getElem?_eq_getElem hy, Option.getD_some] at he
  rw [he]
theorem pl_beqG (a b : Int × Int) : (a.1 == b.1 && (a.2 == b.2 && true)) = decide (a = b) := by
  rw [Bool.eq_iff_iff]
  simp only [Bool.and_eq_true, beq_iff_eq, decide_eq_true_eq, and_true, Prod.ext_iff]
theorem nm_beqG (a b : Nm) : (a.name == b.name && (a.vol == b.vol && (a.off == b.off && (a.n == b.n && (a.sum == b.sum && true))))) = decide (a = b) := by
  rw [Bool.eq_iff_iff]
  cases a; cases b
  simp only [Bool.and_eq_true, beq_iff_eq, decide_eq_true_eq, bytes_beqG, and_true, Nm.mk.injEq]
theorem ss_beqG (a b : Ss) : (a.client == b.client && (a.seq == b.seq && ((a.err == b.err && (a.vol == b.vol && (a.off == b.off && (a.n == b.n && (a.sum == b.sum && (a.found == b.found && true)))))) && true))) = decide (a = b) := by
  rw [Bool.eq_iff_iff]
  cases a; cases b
  simp only [Bool.and_eq_true, beq_iff_eq, decide_eq_true_eq, and_true, Ss.mk.injEq]
theorem vl_ext (a b : Vl) : a = b ↔ a.id = b.id ∧ a.home = b.home ∧ a.mate = b.mate ∧ a.used = b.used ∧ a.phase = b.phase ∧ a.parts = b.parts ∧ a.places = b.places ∧ a.pair = b.pair ∧ a.sum = b.sum := by
  cases a; cases b; simp only [Vl.mk.injEq]
theorem ix_ext (a b : Ix) : a = b ↔ a.vols = b.vols ∧ a.names = b.names ∧ a.last = b.last := by
  cases a; cases b; simp only [Ix.mk.injEq]

theorem equalSp_sat (xs ys : List (Int × Int)) (hx : xs.length ≤ 1048576) (σ : Sto) : SatCall Try.prog 83 [.sl .sh 2 (xs.map plc), .sl .sh 2 (ys.map plc)] σ fun x σ' => x = .bool (decide (xs = ys)) ∧ σ' = σ := by
  refine sat_fn tab Try.func83 rfl (Nat.le_of_ble_eq_true rfl) (by decide) fun hso => ?_
  by_cases hl : xs.length = ys.length
  · have hc : (((xs.map plc).length : Int) != ((ys.map plc).length : Int)) = false := by simp [hl]
    repeat' (first | (apply og_ops; (first | (apply og_move; (apply op_move (tt := tt); (focus ((conv => lhs; whnf); try exact rfl)); exact rfl)) | (apply og_assign; (apply op_assign (tt := tt); (focus ((conv => lhs; whnf); try exact rfl)); exact rfl)) | (apply og_bin; (apply op_bin true tab; (focus ((conv => lhs; whnf; arg 1; whnf; arg 2; whnf); try exact rfl)); (exact trivial); exact rfl)) | (apply og_callb; (apply op_len tab; (focus ((conv => lhs; whnf; arg 1; whnf; arg 2; whnf); try exact rfl)); (exact trivial); exact rfl)) | (apply ops_nil))) | (apply og_sat; (first | (apply sat_seq) | (apply sat_region) | (apply sat_cond_f; exact rfl; (assumption)) | (apply sat_skip) | (apply sat_block))) | (apply pe_norm))
    refine sat_loopW (fun i : Nat => [(0, .sl .sh 2 (xs.map plc)), (1, .sl .sh 2 (ys.map plc)), (12, .int .i64 xs.length), (13, .int .i64 i)]) (fun _ => σ) (fun i => i ≤ xs.length ∧ xs.take i = ys.take i) (fun i => xs.length - i) 0 ⟨Nat.zero_le _, rfl⟩ ?_ rfl ?_
    · (repeat' (first | exact trivial | exact Wk.same _ | (refine Wk.eq ?_; (conv => rhs; whnf); simp <;> fail) | refine ⟨?_, ?_⟩))
    rintro i ⟨hi, ht⟩
    by_cases hil : i < xs.length
    · have c1 : decide ((i : Int) < (xs.length : Int)) = true := decide_eq_true (by omega)
      have hE := pl_beqG (xs.getD ((i : Nat) : Int).toNat default) (ys.getD ((i : Nat) : Int).toNat default)
      rw [Int.toNat_natCast] at hE
      by_cases he : xs.getD i default = ys.getD i default
      · rw [decide_eq_true he] at hE
        repeat' (first | (apply og_ops; (first | (apply og_move; (apply op_move (tt := tt); (focus ((conv => lhs; whnf); try exact rfl)); exact rfl)) | (apply og_assign; (apply op_assign (tt := tt); (focus ((conv => lhs; whnf); try exact rfl)); exact rfl)) | (apply og_bin; (first | (apply op_bin true tab; (focus ((conv => lhs; whnf; arg 1; whnf; arg 2; whnf); try exact rfl)); (first | exact trivial | (simp only [InR]; omega)); exact rfl) | (apply op_lk; (apply lk_neq tab eqok; exact rfl; exact rfl; (focus ((conv => lhs; whnf); try exact rfl)); (focus ((conv => lhs; whnf); try exact rfl)); exact rfl; exact rfl); (intro c h; cases h); exact rfl))) | (apply ops_nil))) | (apply og_sat; (first | (apply sat_seq) | (apply sat_region) | (apply sat_cond_t; exact rfl; (assumption)) | (apply sat_cond; exact (rfl : _ = PV.bool _); all_goals intro hb) | (apply sat_skip) | (apply sat_ret) | (apply sat_block) | (apply sat_drawC (k := 8); exact mixed; decide +kernel; decide +kernel))) | (apply pe_norm) | (apply pe_ret) | (apply pb_norm) | (apply pb_ret) | (apply og_dd; (first | (apply dd_lk; (first | (apply lg_indexAddr; exact lk_indexMap (tI := 3) _ tab rfl (by (focus ((conv => lhs; whnf); try exact rfl))) (by (focus ((conv => lhs; whnf); try exact rfl))) rfl (by (omega)) (by (omega)) (by (focus ((conv => lhs; whnf); try exact rfl)))) | (apply lg_move; (apply lk_move (tt := tt); (focus ((conv => lhs; whnf); try exact rfl)))) | (apply lg_load; (apply lk_load tab; (focus ((conv => lhs; whnf; arg 1; whnf; arg 2; whnf); try skip)); (exact Nat.le_of_ble_eq_true rfl)))); exact rfl; exact rfl) | (apply dd_nil))))
        all_goals first
          | (exfalso; simp only [Int.toNat_natCast] at hb; rw [hE] at hb; cases hb; done)
          | (refine ⟨i + 1, ⟨by omega, take_moreG ht hil (by omega) he⟩, by omega, ?_, rfl⟩
             (repeat' (first | exact trivial | exact Wk.same _ | refine ⟨?_, ?_⟩)))
      · rw [decide_eq_false he] at hE
        repeat' (first | (apply og_ops; (first | (apply og_move; (apply op_move (tt := tt); (focus ((conv => lhs; whnf); try exact rfl)); exact rfl)) | (apply og_assign; (apply op_assign (tt := tt); (focus ((conv => lhs; whnf); try exact rfl)); exact rfl)) | (apply og_bin; (first | (apply op_bin true tab; (focus ((conv => lhs; whnf; arg 1; whnf; arg 2; whnf); try exact rfl)); (first | exact trivial | (simp only [InR]; omega)); exact rfl) | (apply op_lk; (apply lk_neq tab eqok; exact rfl; exact rfl; (focus ((conv => lhs; whnf); try exact rfl)); (focus ((conv => lhs; whnf); try exact rfl)); exact rfl; exact rfl); (intro c h; cases h); exact rfl))) | (apply ops_nil))) | (apply og_sat; (first | (apply sat_seq) | (apply sat_region) | (apply sat_cond_t; exact rfl; (assumption)) | (apply sat_cond; exact (rfl : _ = PV.bool _); all_goals intro hb) | (apply sat_skip) | (apply sat_ret) | (apply sat_block) | (apply sat_drawC (k := 8); exact mixed; decide +kernel; decide +kernel))) | (apply pe_norm) | (apply pe_ret) | (apply pb_norm) | (apply pb_ret) | (apply og_dd; (first | (apply dd_lk; (first | (apply lg_indexAddr; exact lk_indexMap (tI := 3) _ tab rfl (by (focus ((conv => lhs; whnf); try exact rfl))) (by (focus ((conv => lhs; whnf); try exact rfl))) rfl (by (omega)) (by (omega)) (by (focus ((conv => lhs; whnf); try exact rfl)))) | (apply lg_move; (apply lk_move (tt := tt); (focus ((conv => lhs; whnf); try exact rfl)))) | (apply lg_load; (apply lk_load tab; (focus ((conv => lhs; whnf; arg 1; whnf; arg 2; whnf); try skip)); (exact Nat.le_of_ble_eq_true rfl)))); exact rfl; exact rfl) | (apply dd_nil))))
        all_goals first
          | (exfalso; simp only [Int.toNat_natCast] at hb; rw [hE] at hb; cases hb; done)
          | ((change fnPost _ _ _ _ _ _ _; apply fn_endN; (exact .inr rfl); (focus (repeat' (first | (apply rr_tmp; (focus ((conv => lhs; whnf); try exact rfl)); (exact Wk.same _)) | exact rr_nil))); exact rfl; (exact (List.append_nil _).symm); exact Nat.le_refl _; (focus (repeat' (first | exact trivial | refine ⟨?_, ?_⟩))); exact hso)
             exact ⟨by rw [decide_eq_false (fun e => he (by rw [e]))]; rfl, rfl⟩)
    · have c1 : decide ((i : Int) < (xs.length : Int)) = false := decide_eq_false (by omega)
      repeat' (first | (apply og_ops; (first | (apply og_assign; (apply op_assign (tt := tt); (focus ((conv => lhs; whnf); try exact rfl)); exact rfl)) | (apply og_bin; (apply op_bin true tab; (focus ((conv => lhs; whnf; arg 1; whnf; arg 2; whnf); try exact rfl)); (exact trivial); exact rfl)) | (apply ops_nil))) | (apply og_sat; (first | (apply sat_seq) | (apply sat_region) | (apply sat_cond_f; exact rfl; (assumption)) | (apply sat_ret) | (apply sat_exit))) | (apply pe_norm) | (apply pe_exit) | (apply pb_same))
      (change fnPost _ _ _ _ _ _ _; apply fn_endN; (exact .inr rfl); (focus (repeat' (first | (apply rr_tmp; (focus ((conv => lhs; whnf); try exact rfl)); (exact Wk.same _)) | exact rr_nil))); exact rfl; (exact (List.append_nil _).symm); exact Nat.le_refl _; (focus (repeat' (first | exact trivial | refine ⟨?_, ?_⟩))); exact hso)
      have hi' : i = xs.length := by omega
      subst hi'
      rw [List.take_length, hl, List.take_length] at ht
      exact ⟨by rw [decide_eq_true ht]; rfl, rfl⟩
  · have hc : (((xs.map plc).length : Int) != ((ys.map plc).length : Int)) = true := by simp; omega
    repeat' (first | (apply og_ops; (first | (apply og_move; (apply op_move (tt := tt); (focus ((conv => lhs; whnf); try exact rfl)); exact rfl)) | (apply og_assign; (apply op_assign (tt := tt); (focus ((conv => lhs; whnf); try exact rfl)); exact rfl)) | (apply og_bin; (apply op_bin true tab; (focus ((conv => lhs; whnf; arg 1; whnf; arg 2; whnf); try exact rfl)); (exact trivial); exact rfl)) | (apply og_callb; (apply op_len tab; (focus ((conv => lhs; whnf; arg 1; whnf; arg 2; whnf); try exact rfl)); (exact trivial); exact rfl)) | (apply ops_nil))) | (apply og_sat; (first | (apply sat_seq) | (apply sat_region) | (apply sat_cond_t; exact rfl; (assumption)) | (apply sat_ret))) | (apply pe_norm) | (apply pe_ret))
    (change fnPost _ _ _ _ _ _ _; apply fn_endN; (exact .inr rfl); (focus (repeat' (first | (apply rr_tmp; (focus ((conv => lhs; whnf); try exact rfl)); (exact Wk.same _)) | exact rr_nil))); exact rfl; (exact (List.append_nil _).symm); exact Nat.le_refl _; (focus (repeat' (first | exact trivial | refine ⟨?_, ?_⟩))); exact hso)
    exact ⟨by rw [decide_eq_false (fun e => hl (by rw [e]))]; rfl, rfl⟩

theorem equalPl_sat (xs ys : List (Int × Int)) (hx : xs.length ≤ 1048576) (σ : Sto) : SatCall Try.prog 84 [.sl .sh 2 (xs.map plc), .sl .sh 2 (ys.map plc)] σ fun x σ' => x = .bool (decide (xs = ys)) ∧ σ' = σ := by
  refine sat_fn tab Try.func84 rfl (Nat.le_of_ble_eq_true rfl) (by decide) fun hso => ?_
  by_cases hl : xs.length = ys.length
  · have hc : (((xs.map plc).length : Int) != ((ys.map plc).length : Int)) = false := by simp [hl]
    repeat' (first | (apply og_ops; (first | (apply og_move; (apply op_move (tt := tt); (focus ((conv => lhs; whnf); try exact rfl)); exact rfl)) | (apply og_assign; (apply op_assign (tt := tt); (focus ((conv => lhs; whnf); try exact rfl)); exact rfl)) | (apply og_bin; (apply op_bin true tab; (focus ((conv => lhs; whnf; arg 1; whnf; arg 2; whnf); try exact rfl)); (exact trivial); exact rfl)) | (apply og_callb; (apply op_len tab; (focus ((conv => lhs; whnf; arg 1; whnf; arg 2; whnf); try exact rfl)); (exact trivial); exact rfl)) | (apply ops_nil))) | (apply og_sat; (first | (apply sat_seq) | (apply sat_region) | (apply sat_cond_f; exact rfl; (assumption)) | (apply sat_skip) | (apply sat_block))) | (apply pe_norm))
    refine sat_loopW (fun i : Nat => [(0, .sl .sh 2 (xs.map plc)), (1, .sl .sh 2 (ys.map plc)), (12, .int .i64 xs.length), (13, .int .i64 i)]) (fun _ => σ) (fun i => i ≤ xs.length ∧ xs.take i = ys.take i) (fun i => xs.length - i) 0 ⟨Nat.zero_le _, rfl⟩ ?_ rfl ?_
    · (repeat' (first | exact trivial | exact Wk.same _ | (refine Wk.eq ?_; (conv => rhs; whnf); simp <;> fail) | refine ⟨?_, ?_⟩))
    rintro i ⟨hi, ht⟩
    by_cases hil : i < xs.length
    · have c1 : decide ((i : Int) < (xs.length : Int)) = true := decide_eq_true (by omega)
      have hE := pl_beqG (xs.getD ((i : Nat) : Int).toNat default) (ys.getD ((i : Nat) : Int).toNat default)
      rw [Int.toNat_natCast] at hE
      by_cases he : xs.getD i default = ys.getD i default
      · rw [decide_eq_true he] at hE
        repeat' (first | (apply og_ops; (first | (apply og_move; (apply op_move (tt := tt); (focus ((conv => lhs; whnf); try exact rfl)); exact rfl)) | (apply og_assign; (apply op_assign (tt := tt); (focus ((conv => lhs; whnf); try exact rfl)); exact rfl)) | (apply og_bin; (first | (apply op_bin true tab; (focus ((conv => lhs; whnf; arg 1; whnf; arg 2; whnf); try exact rfl)); (first | exact trivial | (simp only [InR]; omega)); exact rfl) | (apply op_lk; (apply lk_neq tab eqok; exact rfl; exact rfl; (focus ((conv => lhs; whnf); try exact rfl)); (focus ((conv => lhs; whnf); try exact rfl)); exact rfl; exact rfl); (intro c h; cases h); exact rfl))) | (apply ops_nil))) | (apply og_sat; (first | (apply sat_seq) | (apply sat_region) | (apply sat_cond_t; exact rfl; (assumption)) | (apply sat_cond; exact (rfl : _ = PV.bool _); all_goals intro hb) | (apply sat_skip) | (apply sat_ret) | (apply sat_block) | (apply sat_drawC (k := 8); exact mixed; decide +kernel; decide +kernel))) | (apply pe_norm) | (apply pe_ret) | (apply pb_norm) | (apply pb_ret) | (apply og_dd; (first | (apply dd_lk; (first | (apply lg_indexAddr; exact lk_indexMap (tI := 3) _ tab rfl (by (focus ((conv => lhs; whnf); try exact rfl))) (by (focus ((conv => lhs; whnf); try exact rfl))) rfl (by (omega)) (by (omega)) (by (focus ((conv => lhs; whnf); try exact rfl)))) | (apply lg_move; (apply lk_move (tt := tt); (focus ((conv => lhs; whnf); try exact rfl)))) | (apply lg_load; (apply lk_load tab; (focus ((conv => lhs; whnf; arg 1; whnf; arg 2; whnf); try skip)); (exact Nat.le_of_ble_eq_true rfl)))); exact rfl; exact rfl) | (apply dd_nil))))
        all_goals first
          | (exfalso; simp only [Int.toNat_natCast] at hb; rw [hE] at hb; cases hb; done)
          | (refine ⟨i + 1, ⟨by omega, take_moreG ht hil (by omega) he⟩, by omega, ?_, rfl⟩
             (repeat' (first | exact trivial | exact Wk.same _ | refine ⟨?_, ?_⟩)))
      · rw [decide_eq_false he] at hE
        repeat' (first | (apply og_ops; (first | (apply og_move; (apply op_move (tt := tt); (focus ((conv => lhs; whnf); try exact rfl)); exact rfl)) | (apply og_assign; (apply op_assign (tt := tt); (focus ((conv => lhs; whnf); try exact rfl)); exact rfl)) | (apply og_bin; (first | (apply op_bin true tab; (focus ((conv => lhs; whnf; arg 1; whnf; arg 2; whnf); try exact rfl)); (first | exact trivial | (simp only [InR]; omega)); exact rfl) | (apply op_lk; (apply lk_neq tab eqok; exact rfl; exact rfl; (focus ((conv => lhs; whnf); try exact rfl)); (focus ((conv => lhs; whnf); try exact rfl)); exact rfl; exact rfl); (intro c h; cases h); exact rfl))) | (apply ops_nil))) | (apply og_sat; (first | (apply sat_seq) | (apply sat_region) | (apply sat_cond_t; exact rfl; (assumption)) | (apply sat_cond; exact (rfl : _ = PV.bool _); all_goals intro hb) | (apply sat_skip) | (apply sat_ret) | (apply sat_block) | (apply sat_drawC (k := 8); exact mixed; decide +kernel; decide +kernel))) | (apply pe_norm) | (apply pe_ret) | (apply pb_norm) | (apply pb_ret) | (apply og_dd; (first | (apply dd_lk; (first | (apply lg_indexAddr; exact lk_indexMap (tI := 3) _ tab rfl (by (focus ((conv => lhs; whnf); try exact rfl))) (by (focus ((conv => lhs; whnf); try exact rfl))) rfl (by (omega)) (by (omega)) (by (focus ((conv => lhs; whnf); try exact rfl)))) | (apply lg_move; (apply lk_move (tt := tt); (focus ((conv => lhs; whnf); try exact rfl)))) | (apply lg_load; (apply lk_load tab; (focus ((conv => lhs; whnf; arg 1; whnf; arg 2; whnf); try skip)); (exact Nat.le_of_ble_eq_true rfl)))); exact rfl; exact rfl) | (apply dd_nil))))
        all_goals first
          | (exfalso; simp only [Int.toNat_natCast] at hb; rw [hE] at hb; cases hb; done)
          | ((change fnPost _ _ _ _ _ _ _; apply fn_endN; (exact .inr rfl); (focus (repeat' (first | (apply rr_tmp; (focus ((conv => lhs; whnf); try exact rfl)); (exact Wk.same _)) | exact rr_nil))); exact rfl; (exact (List.append_nil _).symm); exact Nat.le_refl _; (focus (repeat' (first | exact trivial | refine ⟨?_, ?_⟩))); exact hso)
             exact ⟨by rw [decide_eq_false (fun e => he (by rw [e]))]; rfl, rfl⟩)
    · have c1 : decide ((i : Int) < (xs.length : Int)) = false := decide_eq_false (by omega)
      repeat' (first | (apply og_ops; (first | (apply og_assign; (apply op_assign (tt := tt); (focus ((conv => lhs; whnf); try exact rfl)); exact rfl)) | (apply og_bin; (apply op_bin true tab; (focus ((conv => lhs; whnf; arg 1; whnf; arg 2; whnf); try exact rfl)); (exact trivial); exact rfl)) | (apply ops_nil))) | (apply og_sat; (first | (apply sat_seq) | (apply sat_region) | (apply sat_cond_f; exact rfl; (assumption)) | (apply sat_ret) | (apply sat_exit))) | (apply pe_norm) | (apply pe_exit) | (apply pb_same))
      (change fnPost _ _ _ _ _ _ _; apply fn_endN; (exact .inr rfl); (focus (repeat' (first | (apply rr_tmp; (focus ((conv => lhs; whnf); try exact rfl)); (exact Wk.same _)) | exact rr_nil))); exact rfl; (exact (List.append_nil _).symm); exact Nat.le_refl _; (focus (repeat' (first | exact trivial | refine ⟨?_, ?_⟩))); exact hso)
      have hi' : i = xs.length := by omega
      subst hi'
      rw [List.take_length, hl, List.take_length] at ht
      exact ⟨by rw [decide_eq_true ht]; rfl, rfl⟩
  · have hc : (((xs.map plc).length : Int) != ((ys.map plc).length : Int)) = true := by simp; omega
    repeat' (first | (apply og_ops; (first | (apply og_move; (apply op_move (tt := tt); (focus ((conv => lhs; whnf); try exact rfl)); exact rfl)) | (apply og_assign; (apply op_assign (tt := tt); (focus ((conv => lhs; whnf); try exact rfl)); exact rfl)) | (apply og_bin; (apply op_bin true tab; (focus ((conv => lhs; whnf; arg 1; whnf; arg 2; whnf); try exact rfl)); (exact trivial); exact rfl)) | (apply og_callb; (apply op_len tab; (focus ((conv => lhs; whnf; arg 1; whnf; arg 2; whnf); try exact rfl)); (exact trivial); exact rfl)) | (apply ops_nil))) | (apply og_sat; (first | (apply sat_seq) | (apply sat_region) | (apply sat_cond_t; exact rfl; (assumption)) | (apply sat_ret))) | (apply pe_norm) | (apply pe_ret))
    (change fnPost _ _ _ _ _ _ _; apply fn_endN; (exact .inr rfl); (focus (repeat' (first | (apply rr_tmp; (focus ((conv => lhs; whnf); try exact rfl)); (exact Wk.same _)) | exact rr_nil))); exact rfl; (exact (List.append_nil _).symm); exact Nat.le_refl _; (focus (repeat' (first | exact trivial | refine ⟨?_, ?_⟩))); exact hso)
    exact ⟨by rw [decide_eq_false (fun e => hl (by rw [e]))]; rfl, rfl⟩

theorem equalNm_sat (xs ys : List Nm) (hx : xs.length ≤ 1048576) (σ : Sto) : SatCall Try.prog 45 [.sl .sh 5 (xs.map nm), .sl .sh 5 (ys.map nm)] σ fun x σ' => x = .bool (decide (xs = ys)) ∧ σ' = σ := by
  refine sat_fn tab Try.func45 rfl (Nat.le_of_ble_eq_true rfl) (by decide) fun hso => ?_
  by_cases hl : xs.length = ys.length
  · have hc : (((xs.map nm).length : Int) != ((ys.map nm).length : Int)) = false := by simp [hl]
    repeat' (first | (apply og_ops; (first | (apply og_move; (apply op_move (tt := tt); (focus ((conv => lhs; whnf); try exact rfl)); exact rfl)) | (apply og_assign; (apply op_assign (tt := tt); (focus ((conv => lhs; whnf); try exact rfl)); exact rfl)) | (apply og_bin; (apply op_bin true tab; (focus ((conv => lhs; whnf; arg 1; whnf; arg 2; whnf); try exact rfl)); (exact trivial); exact rfl)) | (apply og_callb; (apply op_len tab; (focus ((conv => lhs; whnf; arg 1; whnf; arg 2; whnf); try exact rfl)); (exact trivial); exact rfl)) | (apply ops_nil))) | (apply og_sat; (first | (apply sat_seq) | (apply sat_region) | (apply sat_cond_f; exact rfl; (assumption)) | (apply sat_skip) | (apply sat_block))) | (apply pe_norm))
    refine sat_loopW (fun i : Nat => [(0, .sl .sh 5 (xs.map nm)), (1, .sl .sh 5 (ys.map nm)), (12, .int .i64 xs.length), (13, .int .i64 i)]) (fun _ => σ) (fun i => i ≤ xs.length ∧ xs.take i = ys.take i) (fun i => xs.length - i) 0 ⟨Nat.zero_le _, rfl⟩ ?_ rfl ?_
    · (repeat' (first | exact trivial | exact Wk.same _ | (refine Wk.eq ?_; (conv => rhs; whnf); simp <;> fail) | refine ⟨?_, ?_⟩))
    rintro i ⟨hi, ht⟩
    by_cases hil : i < xs.length
    · have c1 : decide ((i : Int) < (xs.length : Int)) = true := decide_eq_true (by omega)
      have hE := nm_beqG (xs.getD ((i : Nat) : Int).toNat default) (ys.getD ((i : Nat) : Int).toNat default)
      rw [Int.toNat_natCast] at hE
      by_cases he : xs.getD i default = ys.getD i default
      · rw [decide_eq_true he] at hE
        repeat' (first | (apply og_ops; (first | (apply og_move; (apply op_move (tt := tt); (focus ((conv => lhs; whnf); try exact rfl)); exact rfl)) | (apply og_assign; (apply op_assign (tt := tt); (focus ((conv => lhs; whnf); try exact rfl)); exact rfl)) | (apply og_bin; (first | (apply op_bin true tab; (focus ((conv => lhs; whnf; arg 1; whnf; arg 2; whnf); try exact rfl)); (first | exact trivial | (simp only [InR]; omega)); exact rfl) | (apply op_lk; (apply lk_neq tab eqok; exact rfl; exact rfl; (focus ((conv => lhs; whnf); try exact rfl)); (focus ((conv => lhs; whnf); try exact rfl)); exact rfl; exact rfl); (intro c h; cases h); exact rfl))) | (apply ops_nil))) | (apply og_sat; (first | (apply sat_seq) | (apply sat_region) | (apply sat_cond_t; exact rfl; (assumption)) | (apply sat_cond; exact (rfl : _ = PV.bool _); all_goals intro hb) | (apply sat_skip) | (apply sat_ret) | (apply sat_block) | (apply sat_drawC (k := 8); exact mixed; decide +kernel; decide +kernel))) | (apply pe_norm) | (apply pe_ret) | (apply pb_norm) | (apply pb_ret) | (apply og_dd; (first | (apply dd_lk; (first | (apply lg_indexAddr; exact lk_indexMap (tI := 3) _ tab rfl (by (focus ((conv => lhs; whnf); try exact rfl))) (by (focus ((conv => lhs; whnf); try exact rfl))) rfl (by (omega)) (by (omega)) (by (focus ((conv => lhs; whnf); try exact rfl)))) | (apply lg_move; (apply lk_move (tt := tt); (focus ((conv => lhs; whnf); try exact rfl)))) | (apply lg_load; (apply lk_load tab; (focus ((conv => lhs; whnf; arg 1; whnf; arg 2; whnf); try skip)); (exact Nat.le_of_ble_eq_true rfl)))); exact rfl; exact rfl) | (apply dd_nil))))
        all_goals first
          | (exfalso; simp only [Int.toNat_natCast] at hb; rw [hE] at hb; cases hb; done)
          | (refine ⟨i + 1, ⟨by omega, take_moreG ht hil (by omega) he⟩, by omega, ?_, rfl⟩
             (repeat' (first | exact trivial | exact Wk.same _ | refine ⟨?_, ?_⟩)))
      · rw [decide_eq_false he] at hE
        repeat' (first | (apply og_ops; (first | (apply og_move; (apply op_move (tt := tt); (focus ((conv => lhs; whnf); try exact rfl)); exact rfl)) | (apply og_assign; (apply op_assign (tt := tt); (focus ((conv => lhs; whnf); try exact rfl)); exact rfl)) | (apply og_bin; (first | (apply op_bin true tab; (focus ((conv => lhs; whnf; arg 1; whnf; arg 2; whnf); try exact rfl)); (first | exact trivial | (simp only [InR]; omega)); exact rfl) | (apply op_lk; (apply lk_neq tab eqok; exact rfl; exact rfl; (focus ((conv => lhs; whnf); try exact rfl)); (focus ((conv => lhs; whnf); try exact rfl)); exact rfl; exact rfl); (intro c h; cases h); exact rfl))) | (apply ops_nil))) | (apply og_sat; (first | (apply sat_seq) | (apply sat_region) | (apply sat_cond_t; exact rfl; (assumption)) | (apply sat_cond; exact (rfl : _ = PV.bool _); all_goals intro hb) | (apply sat_skip) | (apply sat_ret) | (apply sat_block) | (apply sat_drawC (k := 8); exact mixed; decide +kernel; decide +kernel))) | (apply pe_norm) | (apply pe_ret) | (apply pb_norm) | (apply pb_ret) | (apply og_dd; (first | (apply dd_lk; (first | (apply lg_indexAddr; exact lk_indexMap (tI := 3) _ tab rfl (by (focus ((conv => lhs; whnf); try exact rfl))) (by (focus ((conv => lhs; whnf); try exact rfl))) rfl (by (omega)) (by (omega)) (by (focus ((conv => lhs; whnf); try exact rfl)))) | (apply lg_move; (apply lk_move (tt := tt); (focus ((conv => lhs; whnf); try exact rfl)))) | (apply lg_load; (apply lk_load tab; (focus ((conv => lhs; whnf; arg 1; whnf; arg 2; whnf); try skip)); (exact Nat.le_of_ble_eq_true rfl)))); exact rfl; exact rfl) | (apply dd_nil))))
        all_goals first
          | (exfalso; simp only [Int.toNat_natCast] at hb; rw [hE] at hb; cases hb; done)
          | ((change fnPost _ _ _ _ _ _ _; apply fn_endN; (exact .inr rfl); (focus (repeat' (first | (apply rr_tmp; (focus ((conv => lhs; whnf); try exact rfl)); (exact Wk.same _)) | exact rr_nil))); exact rfl; (exact (List.append_nil _).symm); exact Nat.le_refl _; (focus (repeat' (first | exact trivial | refine ⟨?_, ?_⟩))); exact hso)
             exact ⟨by rw [decide_eq_false (fun e => he (by rw [e]))]; rfl, rfl⟩)
    · have c1 : decide ((i : Int) < (xs.length : Int)) = false := decide_eq_false (by omega)
      repeat' (first | (apply og_ops; (first | (apply og_assign; (apply op_assign (tt := tt); (focus ((conv => lhs; whnf); try exact rfl)); exact rfl)) | (apply og_bin; (apply op_bin true tab; (focus ((conv => lhs; whnf; arg 1; whnf; arg 2; whnf); try exact rfl)); (exact trivial); exact rfl)) | (apply ops_nil))) | (apply og_sat; (first | (apply sat_seq) | (apply sat_region) | (apply sat_cond_f; exact rfl; (assumption)) | (apply sat_ret) | (apply sat_exit))) | (apply pe_norm) | (apply pe_exit) | (apply pb_same))
      (change fnPost _ _ _ _ _ _ _; apply fn_endN; (exact .inr rfl); (focus (repeat' (first | (apply rr_tmp; (focus ((conv => lhs; whnf); try exact rfl)); (exact Wk.same _)) | exact rr_nil))); exact rfl; (exact (List.append_nil _).symm); exact Nat.le_refl _; (focus (repeat' (first | exact trivial | refine ⟨?_, ?_⟩))); exact hso)
      have hi' : i = xs.length := by omega
      subst hi'
      rw [List.take_length, hl, List.take_length] at ht
      exact ⟨by rw [decide_eq_true ht]; rfl, rfl⟩
  · have hc : (((xs.map nm).length : Int) != ((ys.map nm).length : Int)) = true := by simp; omega
    repeat' (first | (apply og_ops; (first | (apply og_move; (apply op_move (tt := tt); (focus ((conv => lhs; whnf); try exact rfl)); exact rfl)) | (apply og_assign; (apply op_assign (tt := tt); (focus ((conv => lhs; whnf); try exact rfl)); exact rfl)) | (apply og_bin; (apply op_bin true tab; (focus ((conv => lhs; whnf; arg 1; whnf; arg 2; whnf); try exact rfl)); (exact trivial); exact rfl)) | (apply og_callb; (apply op_len tab; (focus ((conv => lhs; whnf; arg 1; whnf; arg 2; whnf); try exact rfl)); (exact trivial); exact rfl)) | (apply ops_nil))) | (apply og_sat; (first | (apply sat_seq) | (apply sat_region) | (apply sat_cond_t; exact rfl; (assumption)) | (apply sat_ret))) | (apply pe_norm) | (apply pe_ret))
    (change fnPost _ _ _ _ _ _ _; apply fn_endN; (exact .inr rfl); (focus (repeat' (first | (apply rr_tmp; (focus ((conv => lhs; whnf); try exact rfl)); (exact Wk.same _)) | exact rr_nil))); exact rfl; (exact (List.append_nil _).symm); exact Nat.le_refl _; (focus (repeat' (first | exact trivial | refine ⟨?_, ?_⟩))); exact hso)
    exact ⟨by rw [decide_eq_false (fun e => hl (by rw [e]))]; rfl, rfl⟩

theorem equalSs_sat (xs ys : List Ss) (hx : xs.length ≤ 1048576) (σ : Sto) : SatCall Try.prog 46 [.sl .sh 8 (xs.map ss), .sl .sh 8 (ys.map ss)] σ fun x σ' => x = .bool (decide (xs = ys)) ∧ σ' = σ := by
  refine sat_fn tab Try.func46 rfl (Nat.le_of_ble_eq_true rfl) (by decide) fun hso => ?_
  by_cases hl : xs.length = ys.length
  · have hc : (((xs.map ss).length : Int) != ((ys.map ss).length : Int)) = false := by simp [hl]
    repeat' (first | (apply og_ops; (first | (apply og_move; (apply op_move (tt := tt); (focus ((conv => lhs; whnf); try exact rfl)); exact rfl)) | (apply og_assign; (apply op_assign (tt := tt); (focus ((conv => lhs; whnf); try exact rfl)); exact rfl)) | (apply og_bin; (apply op_bin true tab; (focus ((conv => lhs; whnf; arg 1; whnf; arg 2; whnf); try exact rfl)); (exact trivial); exact rfl)) | (apply og_callb; (apply op_len tab; (focus ((conv => lhs; whnf; arg 1; whnf; arg 2; whnf); try exact rfl)); (exact trivial); exact rfl)) | (apply ops_nil))) | (apply og_sat; (first | (apply sat_seq) | (apply sat_region) | (apply sat_cond_f; exact rfl; (assumption)) | (apply sat_skip) | (apply sat_block))) | (apply pe_norm))
    refine sat_loopW (fun i : Nat => [(0, .sl .sh 8 (xs.map ss)), (1, .sl .sh 8 (ys.map ss)), (12, .int .i64 xs.length), (13, .int .i64 i)]) (fun _ => σ) (fun i => i ≤ xs.length ∧ xs.take i = ys.take i) (fun i => xs.length - i) 0 ⟨Nat.zero_le _, rfl⟩ ?_ rfl ?_
    · (repeat' (first | exact trivial | exact Wk.same _ | (refine Wk.eq ?_; (conv => rhs; whnf); simp <;> fail) | refine ⟨?_, ?_⟩))
    rintro i ⟨hi, ht⟩
    by_cases hil : i < xs.length
    · have c1 : decide ((i : Int) < (xs.length : Int)) = true := decide_eq_true (by omega)
      have hE := ss_beqG (xs.getD ((i : Nat) : Int).toNat default) (ys.getD ((i : Nat) : Int).toNat default)
      rw [Int.toNat_natCast] at hE
      by_cases he : xs.getD i default = ys.getD i default
      · rw [decide_eq_true he] at hE
        repeat' (first | (apply og_ops; (first | (apply og_move; (apply op_move (tt := tt); (focus ((conv => lhs; whnf); try exact rfl)); exact rfl)) | (apply og_assign; (apply op_assign (tt := tt); (focus ((conv => lhs; whnf); try exact rfl)); exact rfl)) | (apply og_bin; (first | (apply op_bin true tab; (focus ((conv => lhs; whnf; arg 1; whnf; arg 2; whnf); try exact rfl)); (first | exact trivial | (simp only [InR]; omega)); exact rfl) | (apply op_lk; (apply lk_neq tab eqok; exact rfl; exact rfl; (focus ((conv => lhs; whnf); try exact rfl)); (focus ((conv => lhs; whnf); try exact rfl)); exact rfl; exact rfl); (intro c h; cases h); exact rfl))) | (apply ops_nil))) | (apply og_sat; (first | (apply sat_seq) | (apply sat_region) | (apply sat_cond_t; exact rfl; (assumption)) | (apply sat_cond; exact (rfl : _ = PV.bool _); all_goals intro hb) | (apply sat_skip) | (apply sat_ret) | (apply sat_block) | (apply sat_drawC (k := 8); exact mixed; decide +kernel; decide +kernel))) | (apply pe_norm) | (apply pe_ret) | (apply pb_norm) | (apply pb_ret) | (apply og_dd; (first | (apply dd_lk; (first | (apply lg_indexAddr; exact lk_indexMap (tI := 3) _ tab rfl (by (focus ((conv => lhs; whnf); try exact rfl))) (by (focus ((conv => lhs; whnf); try exact rfl))) rfl (by (omega)) (by (omega)) (by (focus ((conv => lhs; whnf); try exact rfl)))) | (apply lg_move; (apply lk_move (tt := tt); (focus ((conv => lhs; whnf); try exact rfl)))) | (apply lg_load; (apply lk_load tab; (focus ((conv => lhs; whnf; arg 1; whnf; arg 2; whnf); try skip)); (exact Nat.le_of_ble_eq_true rfl)))); exact rfl; exact rfl) | (apply dd_nil))))
        all_goals first
          | (exfalso; simp only [Int.toNat_natCast] at hb; rw [hE] at hb; cases hb; done)
          | (refine ⟨i + 1, ⟨by omega, take_moreG ht hil (by omega) he⟩, by omega, ?_, rfl⟩
             (repeat' (first | exact trivial | exact Wk.same _ | refine ⟨?_, ?_⟩)))
      · rw [decide_eq_false he] at hE
        repeat' (first | (apply og_ops; (first | (apply og_move; (apply op_move (tt := tt); (focus ((conv => lhs; whnf); try exact rfl)); exact rfl)) | (apply og_assign; (apply op_assign (tt := tt); (focus ((conv => lhs; whnf); try exact rfl)); exact rfl)) | (apply og_bin; (first | (apply op_bin true tab; (focus ((conv => lhs; whnf; arg 1; whnf; arg 2; whnf); try exact rfl)); (first | exact trivial | (simp only [InR]; omega)); exact rfl) | (apply op_lk; (apply lk_neq tab eqok; exact rfl; exact rfl; (focus ((conv => lhs; whnf); try exact rfl)); (focus ((conv => lhs; whnf); try exact rfl)); exact rfl; exact rfl); (intro c h; cases h); exact rfl))) | (apply ops_nil))) | (apply og_sat; (first | (apply sat_seq) | (apply sat_region) | (apply sat_cond_t; exact rfl; (assumption)) | (apply sat_cond; exact (rfl : _ = PV.bool _); all_goals intro hb) | (apply sat_skip) | (apply sat_ret) | (apply sat_block) | (apply sat_drawC (k := 8); exact mixed; decide +kernel; decide +kernel))) | (apply pe_norm) | (apply pe_ret) | (apply pb_norm) | (apply pb_ret) | (apply og_dd; (first | (apply dd_lk; (first | (apply lg_indexAddr; exact lk_indexMap (tI := 3) _ tab rfl (by (focus ((conv => lhs; whnf); try exact rfl))) (by (focus ((conv => lhs; whnf); try exact rfl))) rfl (by (omega)) (by (omega)) (by (focus ((conv => lhs; whnf); try exact rfl)))) | (apply lg_move; (apply lk_move (tt := tt); (focus ((conv => lhs; whnf); try exact rfl)))) | (apply lg_load; (apply lk_load tab; (focus ((conv => lhs; whnf; arg 1; whnf; arg 2; whnf); try skip)); (exact Nat.le_of_ble_eq_true rfl)))); exact rfl; exact rfl) | (apply dd_nil))))
        all_goals first
          | (exfalso; simp only [Int.toNat_natCast] at hb; rw [hE] at hb; cases hb; done)
          | ((change fnPost _ _ _ _ _ _ _; apply fn_endN; (exact .inr rfl); (focus (repeat' (first | (apply rr_tmp; (focus ((conv => lhs; whnf); try exact rfl)); (exact Wk.same _)) | exact rr_nil))); exact rfl; (exact (List.append_nil _).symm); exact Nat.le_refl _; (focus (repeat' (first | exact trivial | refine ⟨?_, ?_⟩))); exact hso)
             exact ⟨by rw [decide_eq_false (fun e => he (by rw [e]))]; rfl, rfl⟩)
    · have c1 : decide ((i : Int) < (xs.length : Int)) = false := decide_eq_false (by omega)
      repeat' (first | (apply og_ops; (first | (apply og_assign; (apply op_assign (tt := tt); (focus ((conv => lhs; whnf); try exact rfl)); exact rfl)) | (apply og_bin; (apply op_bin true tab; (focus ((conv => lhs; whnf; arg 1; whnf; arg 2; whnf); try exact rfl)); (exact trivial); exact rfl)) | (apply ops_nil))) | (apply og_sat; (first | (apply sat_seq) | (apply sat_region) | (apply sat_cond_f; exact rfl; (assumption)) | (apply sat_ret) | (apply sat_exit))) | (apply pe_norm) | (apply pe_exit) | (apply pb_same))
      (change fnPost _ _ _ _ _ _ _; apply fn_endN; (exact .inr rfl); (focus (repeat' (first | (apply rr_tmp; (focus ((conv => lhs; whnf); try exact rfl)); (exact Wk.same _)) | exact rr_nil))); exact rfl; (exact (List.append_nil _).symm); exact Nat.le_refl _; (focus (repeat' (first | exact trivial | refine ⟨?_, ?_⟩))); exact hso)
      have hi' : i = xs.length := by omega
      subst hi'
      rw [List.take_length, hl, List.take_length] at ht
      exact ⟨by rw [decide_eq_true ht]; rfl, rfl⟩
  · have hc : (((xs.map ss).length : Int) != ((ys.map ss).length : Int)) = true := by simp; omega
    repeat' (first | (apply og_ops; (first | (apply og_move; (apply op_move (tt := tt); (focus ((conv => lhs; whnf); try exact rfl)); exact rfl)) | (apply og_assign; (apply op_assign (tt := tt); (focus ((conv => lhs; whnf); try exact rfl)); exact rfl)) | (apply og_bin; (apply op_bin true tab; (focus ((conv => lhs; whnf; arg 1; whnf; arg 2; whnf); try exact rfl)); (exact trivial); exact rfl)) | (apply og_callb; (apply op_len tab; (focus ((conv => lhs; whnf; arg 1; whnf; arg 2; whnf); try exact rfl)); (exact trivial); exact rfl)) | (apply ops_nil))) | (apply og_sat; (first | (apply sat_seq) | (apply sat_region) | (apply sat_cond_t; exact rfl; (assumption)) | (apply sat_ret))) | (apply pe_norm) | (apply pe_ret))
    (change fnPost _ _ _ _ _ _ _; apply fn_endN; (exact .inr rfl); (focus (repeat' (first | (apply rr_tmp; (focus ((conv => lhs; whnf); try exact rfl)); (exact Wk.same _)) | exact rr_nil))); exact rfl; (exact (List.append_nil _).symm); exact Nat.le_refl _; (focus (repeat' (first | exact trivial | refine ⟨?_, ?_⟩))); exact hso)
    exact ⟨by rw [decide_eq_false (fun e => hl (by rw [e]))]; rfl, rfl⟩


set_option maxHeartbeats 4000000 in
theorem sameI_sat (a b : Vl) (hp : a.places.length ≤ 1048576) (hq : a.parts.length ≤ 1048576) (σ : Sto) : SatCall Try.prog 44 [vl a, vl b] σ fun r σ' => r = .bool (decide (a = b)) ∧ σ' = σ := by
  refine sat_fn tab Try.func44 rfl (Nat.le_of_ble_eq_true rfl) (by decide) fun hso => sat_base ?_
  have q1 := equalSp_sat a.parts b.parts hq
  have q2 := equalPl_sat a.places b.places hp
  repeat' (first | (apply og_ops; (first | (apply og_guard; (first | (apply ops_guard_t; exact (rfl : _ = some _); exact (rfl : _ = PV.bool _); (assumption)) | (apply ops_guard_f'; exact (rfl : _ = some _); exact (rfl : _ = PV.bool _); (first | exact rfl | assumption); exact ltn rfl) | (apply ops_gsplit; exact (rfl : _ = some _); exact (rfl : _ = PV.bool _); all_goals intro hb))) | (apply og_move; (apply op_move (tt := tt); (focus ((conv => lhs; whnf); try exact rfl)); exact rfl)) | (apply og_assign; (apply op_assign (tt := tt); (focus ((conv => lhs; whnf); try exact rfl)); exact rfl)) | (apply og_callv; (first | (refine op_callP (tt := tt) cal83 (q1 _) rfl rfl rfl rfl rfl ?_) | (refine op_callP (tt := tt) cal84 (q2 _) rfl rfl rfl rfl rfl ?_))) | (apply og_bin; (apply op_bin true tab; (focus ((conv => lhs; whnf; arg 1; whnf; arg 2; whnf); try exact rfl)); (exact trivial); exact rfl)) | (apply og_pick; (apply op_pick (tt := tt); exact (rfl : _ = PV.bool _); (first | refine .inr ⟨rfl, ?_⟩ | refine .inl ⟨by assumption, ?_⟩ | refine .inr ⟨by assumption, ?_⟩); (focus ((conv => lhs; whnf); try exact rfl)); exact ltn rfl)) | (apply og_load; (apply op_lk; (apply lk_loadX tab; exact rfl; exact rfl; exact rfl; (focus ((conv => lhs; whnf; arg 1; whnf; arg 2; whnf); try skip)); (exact trivial)); (intro c h; cases h); exact rfl)) | (apply og_fieldAddr; (apply op_lk; (apply lk_fieldAddrB tab; exact rfl; (focus ((conv => lhs; whnf); try exact rfl)); exact rfl; (first | exact (rfl : _ = 0) | exact (rfl : _ = 1) | exact (rfl : _ = 2) | exact (rfl : _ = 3) | exact (rfl : _ = 4) | exact (rfl : _ = 5) | exact (rfl : _ = 6) | exact (rfl : _ = 7) | exact (rfl : _ = 8))); (intro c h; cases h); exact rfl)) | (apply og_box; (apply op_boxX (tt := tt); (focus ((conv => lhs; whnf); try exact rfl)); exact rfl; (first | exact (rfl : _ = 0) | exact (rfl : _ = 1)); exact rfl)) | (apply ops_nil))) | (apply og_sat; (first | (apply sat_seq) | (apply sat_region) | (apply sat_ret))) | (apply pe_norm))
  all_goals (change fnPost _ _ _ _ _ _ _; apply fn_endN; (exact .inr rfl); (focus (repeat' (first | (apply rr_tmp; (focus ((conv => lhs; whnf); try exact rfl)); (exact Wk.same _)) | exact rr_nil))); exact rfl; (exact rfl); exact Nat.le_refl _; (focus (repeat' (first | exact trivial | refine ⟨?_, ?_⟩))); exact hso)
  all_goals refine ⟨?_, rfl⟩
  all_goals clear q1 q2
  all_goals simp only [beq_iff_eq, beq_eq_false_iff_ne, decide_eq_true_eq, decide_eq_false_iff_not] at *
  all_goals show PV.bool _ = PV.bool _
  all_goals rw [PV.bool.injEq, Bool.eq_iff_iff]
  all_goals simp only [decide_eq_true_eq, vl_ext]
  all_goals simp [*]

set_option maxHeartbeats 4000000 in
theorem equalF_sat (xs ys : List Vl) (hx : xs.length ≤ 1048576) (hq : ∀ v ∈ xs, v.places.length ≤ 1048576 ∧ v.parts.length ≤ 1048576) (σ : Sto) : SatCall Try.prog 43 [.sl .sh 9 (xs.map vl), .sl .sh 9 (ys.map vl), .fn (.func 44) [] []] σ fun x σ' => x = .bool (decide (xs = ys)) ∧ σ' = σ := by
  refine sat_fn tab Try.func43 rfl (Nat.le_of_ble_eq_true rfl) (by decide) fun hso => sat_base ?_
  by_cases hl : xs.length = ys.length
  · have hc : (((xs.map vl).length : Int) != ((ys.map vl).length : Int)) = false := by simp [hl]
    repeat' (first | (apply og_ops; (first | (apply og_move; (apply op_move (tt := tt); (focus ((conv => lhs; whnf); try exact rfl)); exact rfl)) | (apply og_assign; (apply op_assign (tt := tt); (focus ((conv => lhs; whnf); try exact rfl)); exact rfl)) | (apply og_bin; (apply op_bin true tab; (focus ((conv => lhs; whnf; arg 1; whnf; arg 2; whnf); try exact rfl)); (exact trivial); exact rfl)) | (apply og_callb; (apply op_len tab; (focus ((conv => lhs; whnf; arg 1; whnf; arg 2; whnf); try exact rfl)); (exact trivial); exact rfl)) | (apply ops_nil))) | (apply og_sat; (first | (apply sat_seq) | (apply sat_region) | (apply sat_cond_f; exact rfl; (assumption)) | (apply sat_skip) | (apply sat_block))) | (apply pe_norm))
    refine sat_loopD (fun i : Nat => [(0, .sl .sh 9 (xs.map vl)), (1, .sl .sh 9 (ys.map vl)), (2, .fn (.func 44) [] []), (15, .sl .sh 9 (xs.map vl)), (16, .int .i64 xs.length), (17, .int .i64 i)]) (fun _ => σ ++ []) (fun i => i ≤ xs.length ∧ xs.take i = ys.take i) (fun i => xs.length - i) 0 ⟨Nat.zero_le _, rfl⟩ ?_ rfl ?_
    · (repeat' (first | exact trivial | exact Wk.same _ | (refine Wk.eq ?_; (conv => rhs; whnf); simp <;> fail) | refine ⟨?_, ?_⟩))
    rintro i ⟨hi, ht⟩
    by_cases hil : i < xs.length
    · have c1 : decide ((i : Int) < (xs.length : Int)) = true := decide_eq_true (by omega)
      have c1m : decide ((i : Int) < ((xs.map vl).length : Int)) = true := by rw [List.length_map]; exact c1
      obtain ⟨p1, p2⟩ := hq _ (getD_memL hil)
      have hS := sameI_sat (xs.getD i default) (ys.getD i default) p1 p2
      repeat' (first | (apply og_ops; (first | (apply og_move; (apply op_move (tt := tt); (focus ((conv => lhs; whnf); try exact rfl)); exact rfl)) | (apply og_assign; (apply op_assign (tt := tt); (focus ((conv => lhs; whnf); try exact rfl)); exact rfl)) | (apply og_bin; (apply op_bin true tab; (focus ((conv => lhs; whnf; arg 1; whnf; arg 2; whnf); try exact rfl)); (exact trivial); exact rfl)) | (apply og_load; (first | (apply op_lk; (apply lk_loadX tab; exact rfl; exact rfl; exact rfl; (focus ((conv => lhs; whnf; arg 1; whnf; arg 2; whnf); try skip)); (exact Nat.le_of_ble_eq_true rfl)); (intro c h; cases h); exact rfl) | (apply op_load tab; (focus ((conv => lhs; whnf; arg 1; whnf; arg 2; whnf); try skip)); (exact Nat.le_of_ble_eq_true rfl); exact rfl))) | (apply og_indexAddr; (refine op_indexMap (tI := 3) _ tab rfl (by (focus ((conv => lhs; whnf); try exact rfl))) (by (focus ((conv => lhs; whnf); try exact rfl))) rfl (by (omega)) (by (omega)) (by (focus ((conv => lhs; whnf); try exact rfl))) (ltn rfl) ?_)) | (apply og_store; (apply op_storeX tab; exact rfl; exact rfl; exact rfl; exact rfl; exact rfl; exact rfl; exact rfl; exact rfl)) | (apply og_alloc; (apply op_allocX tab; exact rfl; exact rfl; (first | exact (rfl : _ = 0) | exact (rfl : _ = 1)); exact rfl)) | (apply ops_nil))) | (apply og_sat; (first | (apply sat_seq) | (apply sat_region) | (apply sat_cond_t; exact rfl; (assumption)) | (apply sat_skip) | (apply sat_block))) | (apply pe_norm))
      refine op_callF (tt := tt) cal44 (hS _) rfl rfl rfl rfl rfl ?_
      by_cases he : xs.getD i default = ys.getD i default
      · have hd : decide (xs.getD i default = ys.getD i default) = true := decide_eq_true he
        have hd' : (!decide (xs.getD i default = ys.getD i default)) = false := by rw [hd]; rfl
        repeat' (first | (apply og_ops; (first | (apply og_move; (apply op_move (tt := tt); (focus ((conv => lhs; whnf); try exact rfl)); exact rfl)) | (apply og_bin; (apply op_bin true tab; (focus ((conv => lhs; whnf; arg 1; whnf; arg 2; whnf); try exact rfl)); (simp only [InR]; omega); exact rfl)) | (apply og_un; (apply op_un (tt := tt) true; (focus ((conv => lhs; whnf; arg 1; whnf; arg 2; whnf); try exact rfl)); (exact trivial); exact rfl)) | (apply ops_nil))) | (apply og_sat; (first | (apply sat_region) | (apply sat_cond_f; exact rfl; (assumption)) | (apply sat_skip))) | (apply pe_norm) | (apply pb_norm))
        refine ⟨i + 1, ⟨by omega, take_moreG ht hil (by omega) he⟩, by omega, ?_, ?_⟩
        · (repeat' (first | exact trivial | exact Wk.same _ | refine ⟨?_, ?_⟩))
        · exact loopD_end 0 rfl (by simp) (stoOK_app hso (by simp [Ent.lt, ltAll, PV.lt, PV.cells, vl, ltAll])) (envL_lt (by simp [PV.lt, vl, ltAll]))
      · have hd : decide (xs.getD i default = ys.getD i default) = false := decide_eq_false he
        have hd' : (!decide (xs.getD i default = ys.getD i default)) = true := by rw [hd]; rfl
        repeat' (first | (apply og_ops; (first | (apply og_assign; (apply op_assign (tt := tt); (focus ((conv => lhs; whnf); try exact rfl)); exact rfl)) | (apply og_un; (apply op_un (tt := tt) true; (focus ((conv => lhs; whnf; arg 1; whnf; arg 2; whnf); try exact rfl)); (exact trivial); exact rfl)) | (apply ops_nil))) | (apply og_sat; (first | (apply sat_seq) | (apply sat_region) | (apply sat_cond_t; exact rfl; (assumption)) | (apply sat_ret))) | (apply pe_norm) | (apply pe_ret) | (apply pb_ret))
        (change fnPost _ _ _ _ _ _ _; apply fn_endN; (exact .inr rfl); (focus (repeat' (first | (apply rr_tmp; (focus ((conv => lhs; whnf); try exact rfl)); (exact Wk.same _)) | exact rr_nil))); exact rfl; (exact rfl); exact Nat.le_refl _; (focus (repeat' (first | exact trivial | refine ⟨?_, ?_⟩))); exact hso)
        exact ⟨by rw [decide_eq_false (fun e => he (by rw [e]))]; rfl, rfl⟩
    · have c1 : decide ((i : Int) < (xs.length : Int)) = false := decide_eq_false (by omega)
      have c1m : decide ((i : Int) < ((xs.map vl).length : Int)) = false := by rw [List.length_map]; exact c1
      repeat' (first | (apply og_ops; (first | (apply og_assign; (apply op_assign (tt := tt); (focus ((conv => lhs; whnf); try exact rfl)); exact rfl)) | (apply og_bin; (apply op_bin true tab; (focus ((conv => lhs; whnf; arg 1; whnf; arg 2; whnf); try exact rfl)); (exact trivial); exact rfl)) | (apply ops_nil))) | (apply og_sat; (first | (apply sat_seq) | (apply sat_region) | (apply sat_cond_f; exact rfl; (assumption)) | (apply sat_ret) | (apply sat_exit))) | (apply pe_norm) | (apply pe_exit) | (apply pb_same))
      (change fnPost _ _ _ _ _ _ _; apply fn_endN; (exact .inr rfl); (focus (repeat' (first | (apply rr_tmp; (focus ((conv => lhs; whnf); try exact rfl)); (exact Wk.same _)) | exact rr_nil))); exact rfl; (exact rfl); exact Nat.le_refl _; (focus (repeat' (first | exact trivial | refine ⟨?_, ?_⟩))); exact hso)
      have hi' : i = xs.length := by omega
      subst hi'
      rw [List.take_length, hl, List.take_length] at ht
      exact ⟨by rw [decide_eq_true ht]; rfl, rfl⟩
  · have hc : (((xs.map vl).length : Int) != ((ys.map vl).length : Int)) = true := by simp; omega
    repeat' (first | (apply og_ops; (first | (apply og_move; (apply op_move (tt := tt); (focus ((conv => lhs; whnf); try exact rfl)); exact rfl)) | (apply og_assign; (apply op_assign (tt := tt); (focus ((conv => lhs; whnf); try exact rfl)); exact rfl)) | (apply og_bin; (apply op_bin true tab; (focus ((conv => lhs; whnf; arg 1; whnf; arg 2; whnf); try exact rfl)); (exact trivial); exact rfl)) | (apply og_callb; (apply op_len tab; (focus ((conv => lhs; whnf; arg 1; whnf; arg 2; whnf); try exact rfl)); (exact trivial); exact rfl)) | (apply ops_nil))) | (apply og_sat; (first | (apply sat_seq) | (apply sat_region) | (apply sat_cond_t; exact rfl; (assumption)) | (apply sat_ret))) | (apply pe_norm) | (apply pe_ret))
    (change fnPost _ _ _ _ _ _ _; apply fn_endN; (exact .inr rfl); (focus (repeat' (first | (apply rr_tmp; (focus ((conv => lhs; whnf); try exact rfl)); (exact Wk.same _)) | exact rr_nil))); exact rfl; (exact rfl); exact Nat.le_refl _; (focus (repeat' (first | exact trivial | refine ⟨?_, ?_⟩))); exact hso)
    exact ⟨by rw [decide_eq_false (fun e => hl (by rw [e]))]; rfl, rfl⟩

set_option maxHeartbeats 4000000 in
theorem sameX_sat (x y : Ix) (hv : x.vols.length ≤ 1048576) (hn : x.names.length ≤ 1048576) (hs : x.last.length ≤ 1048576) (hq : ∀ v ∈ x.vols, v.places.length ≤ 1048576 ∧ v.parts.length ≤ 1048576) (σ : Sto) : SatCall Try.prog 23 [ix x, ix y] σ fun r σ' => r = .bool (decide (x = y)) ∧ σ' = σ := by
  refine sat_fn tab Try.func23 rfl (Nat.le_of_ble_eq_true rfl) (by decide) fun hso => sat_base ?_
  have q1 := equalF_sat x.vols y.vols hv hq
  have q2 := equalNm_sat x.names y.names hn
  have q3 := equalSs_sat x.last y.last hs
  repeat' (first | (apply og_ops; (first | (apply og_guard; (first | (apply ops_guard_t; exact (rfl : _ = some _); exact (rfl : _ = PV.bool _); (assumption)) | (apply ops_guard_f'; exact (rfl : _ = some _); exact (rfl : _ = PV.bool _); (first | exact rfl | assumption); exact ltn rfl) | (apply ops_gsplit; exact (rfl : _ = some _); exact (rfl : _ = PV.bool _); all_goals intro hb))) | (apply og_move; (apply op_move (tt := tt); (focus ((conv => lhs; whnf); try exact rfl)); exact rfl)) | (apply og_assign; (apply op_assign (tt := tt); (focus ((conv => lhs; whnf); try exact rfl)); exact rfl)) | (apply og_callv; (first | (refine op_callP (tt := tt) cal43 (q1 _) rfl rfl rfl rfl rfl ?_) | (refine op_callP (tt := tt) cal45 (q2 _) rfl rfl rfl rfl rfl ?_) | (refine op_callP (tt := tt) cal46 (q3 _) rfl rfl rfl rfl rfl ?_))) | (apply og_pick; (apply op_pick (tt := tt); exact (rfl : _ = PV.bool _); (first | refine .inr ⟨rfl, ?_⟩ | refine .inl ⟨by assumption, ?_⟩ | refine .inr ⟨by assumption, ?_⟩); (focus ((conv => lhs; whnf); try exact rfl)); exact ltn rfl)) | (apply og_load; (apply op_lk; (apply lk_loadX tab; exact rfl; exact rfl; exact rfl; (focus ((conv => lhs; whnf; arg 1; whnf; arg 2; whnf); try skip)); (exact trivial)); (intro c h; cases h); exact rfl)) | (apply og_fieldAddr; (apply op_lk; (apply lk_fieldAddrB tab; exact rfl; (focus ((conv => lhs; whnf); try exact rfl)); exact rfl; (first | exact (rfl : _ = 0) | exact (rfl : _ = 1) | exact (rfl : _ = 2))); (intro c h; cases h); exact rfl)) | (apply og_box; (apply op_boxX (tt := tt); (focus ((conv => lhs; whnf); try exact rfl)); exact rfl; (first | exact (rfl : _ = 0) | exact (rfl : _ = 1)); exact rfl)) | (apply ops_nil))) | (apply og_sat; (first | (apply sat_seq) | (apply sat_region) | (apply sat_ret))) | (apply pe_norm))
  all_goals (change fnPost _ _ _ _ _ _ _; apply fn_endN; (exact .inr rfl); (focus (repeat' (first | (apply rr_tmp; (focus ((conv => lhs; whnf); try exact rfl)); (exact Wk.same _)) | exact rr_nil))); exact rfl; (exact rfl); exact Nat.le_refl _; (focus (repeat' (first | exact trivial | refine ⟨?_, ?_⟩))); exact hso)
  all_goals refine ⟨?_, rfl⟩
  all_goals clear q1 q2 q3
  all_goals simp only [beq_iff_eq, beq_eq_false_iff_ne, decide_eq_true_eq, decide_eq_false_iff_not] at *
  all_goals show PV.bool _ = PV.bool _
  all_goals rw [PV.bool.injEq, Bool.eq_iff_iff]
  all_goals simp only [decide_eq_true_eq, ix_ext]
  all_goals simp [*]

end Go.Proofs.Ytbjmafbbjhoddaa.Pv
