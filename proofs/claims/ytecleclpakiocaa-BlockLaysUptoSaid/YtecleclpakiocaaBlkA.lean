/- block.Join, and the plain one beside it. -/
import Derived.Test.YtecleclpakiocaaLibSame
import Derived.Test.YtecleclpakiocaaLibJoin
namespace Go.Proofs.Ytecleclpakiocaa.Pv
open Go
set_option linter.unusedVariables false
set_option linter.unusedSimpArgs false
set_option maxRecDepth 100000

/-- Texts, one behind the other. -/
def catI (xs : List ByteArray) : List Int := (xs.map bi).flatten

theorem catI_join (xs : List ByteArray) : joinB xs ⟨#[]⟩ = ofI (catI xs) := by
  apply bi_inj
  rw [bi_ofI]
  · have e : Lib.join (xs.map (·.data.toList)) [] = (xs.map (·.data.toList)).flatten := by
      cases xs with
      | nil => rfl
      | cons x r => rw [List.map_cons, Lib.join_cons]; simp [Lib.joinTail]; rfl
    simp only [bi, joinB, catI]
    rw [e]
    simp [List.map_flatten, List.map_map, Function.comp_def, bi]; rfl
  · intro x hx
    simp only [catI, List.mem_flatten, List.mem_map] at hx
    obtain ⟨l, ⟨s, _, rfl⟩, h⟩ := hx
    exact bi_mem h

def joinP (xs : List ByteArray) (n : Int) : ByteArray × Int := if n < 0 ∨ n > (catI xs).length then (⟨#[]⟩, 1) else ((ofI (catI xs)).extract 0 n.toNat, 0)

theorem join_sat (xs : List ByteArray) (n : Int) (hN : xs.length ≤ 140737488355328) (hl : (catI xs).length ≤ 70368744177664) (σ : Sto) :
    SatCall Try.prog 13 [.sl .sh 1 (xs.map PV.str), .int .i64 n] σ fun x σ' => x = .tup [.str (joinP xs n).1, .int .i64 (joinP xs n).2] ∧ σ' = σ := by
  refine sat_fn tab Try.func13 rfl (Nat.le_of_ble_eq_true rfl) (by decide) fun hso => ?_
  have hj := catI_join xs
  have hl' : (joinB xs ⟨#[]⟩).size ≤ 140737488355328 := by rw [hj, ofI_size]; omega
  have hlen : ((joinB xs ⟨#[]⟩).size : Int) = (catI xs).length := by rw [hj, ofI_size]
  by_cases h0 : n < 0
  · have c0 : decide (n < 0) = true := decide_eq_true h0
    repeat' (first | (apply og_ops; (first | (apply og_guard; (apply ops_guard_f'; exact (rfl : _ = some _); exact (rfl : _ = PV.bool _); (assumption); exact ltn rfl)) | (apply og_move; (apply op_move (tt := tt); (focus ((conv => lhs; whnf); try exact rfl)); exact rfl)) | (apply og_assign; (apply op_assign (tt := tt); (focus ((conv => lhs; whnf); try exact rfl)); exact rfl)) | (apply og_callv; (refine op_callP (tt := tt) cal22 (join_ok _ _ ?_ ?_ _) rfl rfl rfl rfl rfl ?_; (assumption); (assumption))) | (apply og_bin; (apply op_bin true tab; (focus ((conv => lhs; whnf; arg 1; whnf; arg 2; whnf); try exact rfl)); (exact trivial); exact rfl)) | (apply og_pick; (apply op_pick (tt := tt); exact (rfl : _ = PV.bool _); (refine .inl ⟨by assumption, ?_⟩); (focus ((conv => lhs; whnf); try exact rfl)); exact ltn rfl)) | (apply ops_nil))) | (apply og_sat; (first | (apply sat_seq) | (apply sat_region) | (apply sat_cond_t; exact rfl; (exact rfl)) | (apply sat_ret))) | (apply pe_norm) | (apply pe_ret))
    (change fnPost _ _ _ _ _ _ _; apply fn_endN; (exact .inr rfl); (focus (repeat' (first | (apply rr_tmp; (focus ((conv => lhs; whnf); try exact rfl)); (exact Wk.same _)) | exact rr_nil))); exact rfl; (exact (List.append_nil _).symm); exact Nat.le_refl _; (focus (repeat' (first | exact trivial | refine ⟨?_, ?_⟩))); exact hso)
    exact ⟨by rw [joinP, if_pos (.inl h0)]; rfl, rfl⟩
  · have c0 : decide (n < 0) = false := decide_eq_false h0
    by_cases h1 : ((joinB xs ⟨#[]⟩).size : Int) < n
    · have c1 : decide (((joinB xs ⟨#[]⟩).size : Int) < n) = true := decide_eq_true h1
      repeat' (first | (apply og_ops; (first | (apply og_guard; (apply ops_guard_t; exact (rfl : _ = some _); exact (rfl : _ = PV.bool _); (assumption))) | (apply og_move; (apply op_move (tt := tt); (focus ((conv => lhs; whnf); try exact rfl)); exact rfl)) | (apply og_assign; (apply op_assign (tt := tt); (focus ((conv => lhs; whnf); try exact rfl)); exact rfl)) | (apply og_callv; (refine op_callP (tt := tt) cal22 (join_ok _ _ ?_ ?_ _) rfl rfl rfl rfl rfl ?_; (assumption); (assumption))) | (apply og_bin; (apply op_bin true tab; (focus ((conv => lhs; whnf; arg 1; whnf; arg 2; whnf); try exact rfl)); (exact trivial); exact rfl)) | (apply og_pick; (apply op_pick (tt := tt); exact (rfl : _ = PV.bool _); (refine .inr ⟨by assumption, ?_⟩); (focus ((conv => lhs; whnf); try exact rfl)); exact ltn rfl)) | (apply og_callb; (apply op_len tab; (focus ((conv => lhs; whnf; arg 1; whnf; arg 2; whnf); try exact rfl)); (exact trivial); exact rfl)) | (apply ops_nil))) | (apply og_sat; (first | (apply sat_seq) | (apply sat_region) | (apply sat_cond_t; exact rfl; (assumption)) | (apply sat_ret))) | (apply pe_norm) | (apply pe_ret))
      (change fnPost _ _ _ _ _ _ _; apply fn_endN; (exact .inr rfl); (focus (repeat' (first | (apply rr_tmp; (focus ((conv => lhs; whnf); try exact rfl)); (exact Wk.same _)) | exact rr_nil))); exact rfl; (exact (List.append_nil _).symm); exact Nat.le_refl _; (focus (repeat' (first | exact trivial | refine ⟨?_, ?_⟩))); exact hso)
      exact ⟨by rw [joinP, if_pos (.inr (by omega))]; rfl, rfl⟩
    · have c1 : decide (((joinB xs ⟨#[]⟩).size : Int) < n) = false := decide_eq_false h1
      repeat' (first | (apply og_ops; (first | (apply og_guard; (apply ops_guard_t; exact (rfl : _ = some _); exact (rfl : _ = PV.bool _); (assumption))) | (apply og_move; (apply op_move (tt := tt); (focus ((conv => lhs; whnf); try exact rfl)); exact rfl)) | (apply og_assign; (apply op_assign (tt := tt); (focus ((conv => lhs; whnf); try exact rfl)); exact rfl)) | (apply og_callv; (refine op_callP (tt := tt) cal22 (join_ok _ _ ?_ ?_ _) rfl rfl rfl rfl rfl ?_; (assumption); (assumption))) | (apply og_bin; (apply op_bin true tab; (focus ((conv => lhs; whnf; arg 1; whnf; arg 2; whnf); try exact rfl)); (exact trivial); exact rfl)) | (apply og_pick; (apply op_pick (tt := tt); exact (rfl : _ = PV.bool _); (refine .inr ⟨by assumption, ?_⟩); (focus ((conv => lhs; whnf); try exact rfl)); exact ltn rfl)) | (apply og_callb; (apply op_len tab; (focus ((conv => lhs; whnf; arg 1; whnf; arg 2; whnf); try exact rfl)); (exact trivial); exact rfl)) | (apply og_slice; (apply op_lk; (apply lk_slice tab; (focus ((conv => lhs; whnf; arg 1; whnf; arg 2; whnf); try exact rfl)); (omega)); (intro c h; cases h); exact rfl)) | (apply ops_nil))) | (apply og_sat; (first | (apply sat_seq) | (apply sat_region) | (apply sat_cond_f; exact rfl; (assumption)) | (apply sat_skip) | (apply sat_ret))) | (apply pe_norm))
      (change fnPost _ _ _ _ _ _ _; apply fn_endN; (exact .inr rfl); (focus (repeat' (first | (apply rr_tmp; (focus ((conv => lhs; whnf); try exact rfl)); (exact Wk.same _)) | exact rr_nil))); exact rfl; (exact (List.append_nil _).symm); exact Nat.le_refl _; (focus (repeat' (first | exact trivial | refine ⟨?_, ?_⟩))); exact hso)
      exact ⟨by rw [joinP, if_neg (by omega), ← hj]; rfl, rfl⟩

theorem catI_byte {xs : List ByteArray} {x : Int} (h : x ∈ catI xs) : 0 ≤ x ∧ x ≤ 255 := by
  simp only [catI, List.mem_flatten, List.mem_map] at h
  obtain ⟨l, ⟨s, _, rfl⟩, h⟩ := h
  exact bi_mem h
theorem ofI_extract {l : List Int} (h : ∀ x ∈ l, 0 ≤ x ∧ x ≤ 255) (k : Nat) : (ofI l).extract 0 k = ofI (l.take k) := by
  apply bi_inj
  rw [bi_extract, bi_ofI h, bi_ofI fun x hx => h x (List.mem_of_mem_take hx)]; simp
theorem catI_take {xs : List ByteArray} {i : Nat} (h : i < xs.length) : catI (xs.take (i + 1)) = catI (xs.take i) ++ bi (xs.getD i default) := by
  rw [List.take_succ_eq_append_getElem h, catI, List.map_append, List.flatten_append, catI]
  simp [List.getD, h]

theorem refJoin_sat (xs : List ByteArray) (n : Int) (hN : xs.length ≤ 140737488355328) (hl : (catI xs).length ≤ 70368744177664) (σ : Sto) : SatCall Try.prog 14 [.sl .sh 1 (xs.map PV.str), .int .i64 n] σ fun x σ' => x = .tup [.str (joinP xs n).1, .int .i64 (joinP xs n).2] ∧ σ' = σ := by
  refine sat_fn tab Try.func14 rfl (Nat.le_of_ble_eq_true rfl) (by decide) fun hso => ?_
  repeat' (first | (apply og_ops; (first | (apply og_assign; (first | (apply op_nil (tt := tt); exact rfl; exact ltn rfl) | (apply op_assign (tt := tt); (focus ((conv => lhs; whnf); try exact rfl)); exact rfl))) | (apply ops_nil))) | (apply og_sat; (first | (apply sat_seq) | (apply sat_region) | (apply sat_block))) | (apply pe_norm))
  refine sat_loopW (fun i : Nat => [(0, .sl .sh 1 (xs.map PV.str)), (1, .int .i64 n), (6, .sl .ow 1 ((catI (xs.take i)).map (.int .u8))), (7, .int .i64 i)]) (fun _ => σ) (fun i => i ≤ xs.length) (fun i => xs.length - i) 0 (Nat.zero_le _) ?_ rfl ?_
  · (repeat' (first | exact trivial | exact Wk.same _ | refine ⟨?_, ?_⟩))
  rintro i hi
  by_cases hil : i < xs.length
  · have c1 : decide ((i : Int) < ((xs.map PV.str).length : Int)) = true := by simp; omega
    have hf : (catI (xs.take i)).length + (xs.getD ((i : Nat) : Int).toNat default).size ≤ 70368744177664 := by
      have h2 := congrArg List.length (catI_take hil)
      rw [List.length_append, bi_len] at h2
      have h3 : (catI (xs.take (i + 1))).length ≤ (catI xs).length := by
        have h4 : (catI xs) = catI (xs.take (i + 1)) ++ catI (xs.drop (i + 1)) := by
          rw [catI, catI, catI, ← List.flatten_append, ← List.map_append, List.take_append_drop]
        rw [h4, List.length_append]; omega
      rw [Int.toNat_natCast]; omega
    repeat' (first | (apply og_ops; (first | (apply og_move; (first | (apply op_take (d := 14) (.inr rfl); (focus ((conv => lhs; whnf); try exact rfl)); exact rfl; exact ltn rfl) | (apply op_move (tt := tt); (focus ((conv => lhs; whnf); try exact rfl)); exact rfl))) | (apply og_assign; (first | (apply op_take (.inl rfl); (focus ((conv => lhs; whnf); try exact rfl)); exact rfl; exact ltn rfl) | (apply op_assign (tt := tt); (focus ((conv => lhs; whnf); try exact rfl)); exact rfl))) | (apply og_bin; (apply op_bin true tab; (focus ((conv => lhs; whnf; arg 1; whnf; arg 2; whnf); try exact rfl)); (first | exact trivial | (simp only [InR]; omega)); exact rfl)) | (apply og_load; (apply op_load tab; (focus ((conv => lhs; whnf; arg 1; whnf; arg 2; whnf); try skip)); (exact trivial); exact rfl)) | (apply og_callb; (first | (apply op_appendStrM tab; (focus ((conv => lhs; whnf); try exact rfl)); exact rfl; exact rfl; exact rfl; exact rfl; exact rfl; (focus ((conv => lhs; whnf); try exact rfl)); exact rfl; (assumption); exact rfl) | (apply op_len tab; (focus ((conv => lhs; whnf; arg 1; whnf; arg 2; whnf); try exact rfl)); (exact trivial); exact rfl))) | (apply og_indexAddr; (refine op_indexMap (tI := 3) _ tab rfl (by (focus ((conv => lhs; whnf); try exact rfl))) (by (focus ((conv => lhs; whnf); try exact rfl))) rfl (by (omega)) (by (omega)) (by (focus ((conv => lhs; whnf); try exact rfl))) (ltn rfl) ?_)) | (apply ops_nil))) | (apply og_sat; (first | (apply sat_seq) | (apply sat_region) | (apply sat_cond_t; exact rfl; (assumption)) | (apply sat_skip) | (apply sat_block))) | (apply pe_norm) | (apply pb_norm))
    rw [Int.toNat_natCast, ← catI_take hil]
    refine ⟨i + 1, by omega, by omega, ?_, rfl⟩
    (repeat' (first | exact trivial | exact Wk.same _ | refine ⟨?_, ?_⟩))
  · have c1 : decide ((i : Int) < ((xs.map PV.str).length : Int)) = false := by simp; omega
    by_cases h0 : n < 0
    · have c0 : decide (n < 0) = true := decide_eq_true h0
      repeat' (first | (apply og_ops; (first | (apply og_guard; (apply ops_guard_f'; exact (rfl : _ = some _); exact (rfl : _ = PV.bool _); (assumption); exact ltn rfl)) | (apply og_move; (apply op_move (tt := tt); (focus ((conv => lhs; whnf); try exact rfl)); exact rfl)) | (apply og_assign; (apply op_assign (tt := tt); (focus ((conv => lhs; whnf); try exact rfl)); exact rfl)) | (apply og_bin; (apply op_bin true tab; (focus ((conv => lhs; whnf; arg 1; whnf; arg 2; whnf); try exact rfl)); (exact trivial); exact rfl)) | (apply og_pick; (apply op_pick (tt := tt); exact (rfl : _ = PV.bool _); (refine .inl ⟨by assumption, ?_⟩); (focus ((conv => lhs; whnf); try exact rfl)); exact ltn rfl)) | (apply og_callb; (apply op_len tab; (focus ((conv => lhs; whnf; arg 1; whnf; arg 2; whnf); try exact rfl)); (exact trivial); exact rfl)) | (apply ops_nil))) | (apply og_sat; (first | (apply sat_seq) | (apply sat_region) | (apply sat_cond_t; exact rfl; (exact rfl)) | (apply sat_cond_f; exact rfl; (assumption)) | (apply sat_ret) | (apply sat_exit))) | (apply pe_norm) | (apply pe_ret) | (apply pe_exit) | (apply pb_same))
      (change fnPost _ _ _ _ _ _ _; apply fn_endN; (exact .inr rfl); (focus (repeat' (first | (apply rr_tmp; (focus ((conv => lhs; whnf); try exact rfl)); (exact Wk.same _)) | exact rr_nil))); exact rfl; (exact (List.append_nil _).symm); exact Nat.le_refl _; (focus (repeat' (first | exact trivial | refine ⟨?_, ?_⟩))); exact hso)
      exact ⟨by rw [joinP, if_pos (.inl h0)]; rfl, rfl⟩
    · have c0 : decide (n < 0) = false := decide_eq_false h0
      have hi' : i = xs.length := by omega
      subst hi'
      by_cases h1 : ((catI xs).length : Int) < n
      · have c2 : decide ((((catI (xs.take xs.length)).map (PV.int .u8)).length : Int) < n) = true := decide_eq_true (by rw [List.take_length, List.length_map]; exact h1)
        repeat' (first | (apply og_ops; (first | (apply og_guard; (apply ops_guard_t; exact (rfl : _ = some _); exact (rfl : _ = PV.bool _); (assumption))) | (apply og_move; (apply op_move (tt := tt); (focus ((conv => lhs; whnf); try exact rfl)); exact rfl)) | (apply og_assign; (apply op_assign (tt := tt); (focus ((conv => lhs; whnf); try exact rfl)); exact rfl)) | (apply og_bin; (apply op_bin true tab; (focus ((conv => lhs; whnf; arg 1; whnf; arg 2; whnf); try exact rfl)); (exact trivial); exact rfl)) | (apply og_pick; (apply op_pick (tt := tt); exact (rfl : _ = PV.bool _); (refine .inr ⟨by assumption, ?_⟩); (focus ((conv => lhs; whnf); try exact rfl)); exact ltn rfl)) | (apply og_callb; (apply op_len tab; (focus ((conv => lhs; whnf; arg 1; whnf; arg 2; whnf); try exact rfl)); (exact trivial); exact rfl)) | (apply ops_nil))) | (apply og_sat; (first | (apply sat_seq) | (apply sat_region) | (apply sat_cond_t; exact rfl; (assumption)) | (apply sat_cond_f; exact rfl; (assumption)) | (apply sat_ret) | (apply sat_exit))) | (apply pe_norm) | (apply pe_ret) | (apply pe_exit) | (apply pb_same))
        (change fnPost _ _ _ _ _ _ _; apply fn_endN; (exact .inr rfl); (focus (repeat' (first | (apply rr_tmp; (focus ((conv => lhs; whnf); try exact rfl)); (exact Wk.same _)) | exact rr_nil))); exact rfl; (exact (List.append_nil _).symm); exact Nat.le_refl _; (focus (repeat' (first | exact trivial | refine ⟨?_, ?_⟩))); exact hso)
        exact ⟨by rw [joinP, if_pos (.inr h1)]; rfl, rfl⟩
      · have c2 : decide ((((catI (xs.take xs.length)).map (PV.int .u8)).length : Int) < n) = false := decide_eq_false (by rw [List.take_length, List.length_map]; exact h1)
        repeat' (first | (apply og_ops; (first | (apply og_guard; (apply ops_guard_t; exact (rfl : _ = some _); exact (rfl : _ = PV.bool _); (assumption))) | (apply og_move; (apply op_move (tt := tt); (focus ((conv => lhs; whnf); try exact rfl)); exact rfl)) | (apply og_assign; (apply op_assign (tt := tt); (focus ((conv => lhs; whnf); try exact rfl)); exact rfl)) | (apply og_bin; (apply op_bin true tab; (focus ((conv => lhs; whnf; arg 1; whnf; arg 2; whnf); try exact rfl)); (exact trivial); exact rfl)) | (apply og_pick; (apply op_pick (tt := tt); exact (rfl : _ = PV.bool _); (refine .inr ⟨by assumption, ?_⟩); (focus ((conv => lhs; whnf); try exact rfl)); exact ltn rfl)) | (apply og_callb; (apply op_len tab; (focus ((conv => lhs; whnf; arg 1; whnf; arg 2; whnf); try exact rfl)); (exact trivial); exact rfl)) | (apply og_conv; (apply op_lk; (apply lk_bytesStr tab; exact rfl; exact rfl; exact rfl; exact rfl; (focus ((conv => lhs; whnf); try exact rfl)); (exact srcM_sl); exact rfl); (intro c h; cases h); exact rfl)) | (apply og_slice; (apply op_lk; (apply lk_sliceM_h _ tab; exact rfl; (focus ((conv => lhs; whnf); try exact rfl)); exact rfl; (focus ((conv => lhs; whnf); try exact rfl)); (simp only [decide_eq_true_eq, decide_eq_false_iff_not, List.length_map, InR, ne_eq] at *; omega)); (intro c h; cases h); exact rfl)) | (apply ops_nil))) | (apply og_sat; (first | (apply sat_seq) | (apply sat_region) | (apply sat_cond_f; exact rfl; (assumption)) | (apply sat_skip) | (apply sat_ret) | (apply sat_exit))) | (apply pe_norm) | (apply pe_exit) | (apply pb_same))
        (change fnPost _ _ _ _ _ _ _; apply fn_endN; (exact .inr rfl); (focus (repeat' (first | (apply rr_tmp; (focus ((conv => lhs; whnf); try exact rfl)); (exact Wk.same _)) | exact rr_nil))); exact rfl; (exact (List.append_nil _).symm); exact Nat.le_refl _; (focus (repeat' (first | exact trivial | refine ⟨?_, ?_⟩))); exact hso)
        exact ⟨by rw [joinP, if_neg (by omega), ofI_extract fun _ h => catI_byte h]; simp [resOf], rfl⟩

end Go.Proofs.Ytecleclpakiocaa.Pv
