/- A row in which one stands in a place, or behind all. -/
import Derived.Test.YtbjmafbbjhoddaaLibIdxRef
namespace Go.Proofs.Ytbjmafbbjhoddaa.Pv
open Go
set_option linter.unusedVariables false
set_option linter.unusedSimpArgs false
set_option maxRecDepth 100000
set_option maxHeartbeats 2000000

theorem cloneSsR_sat (xs : List (Ss)) (hl : xs.length ≤ 1048576) (σ : Sto) : SatCall Try.prog 78 [.sl .sh 8 (xs.map ss)] σ fun x σ' =>
    (xs = [] ∧ x = .xsl 0 0 8 0 0 ∧ σ' = σ) ∨ ∃ c, xs.length ≤ c ∧ x = .xsl σ.length 0 8 xs.length c ∧ σ' = σ ++ [.cells (flat (xs.map ss) ++ room ((c - xs.length) * 8))] := by
  refine sat_fn tab Try.func78 rfl (Nat.le_of_ble_eq_true rfl) (by decide) fun hso => ?_
  repeat' (first | (apply og_ops; (first | (apply og_move; (apply op_move (tt := tt); (focus ((conv => lhs; whnf); try exact rfl)); exact rfl)) | (apply og_assign; (apply op_nilX (tt := tt); exact rfl; exact rfl)) | (apply ops_nil))) | (apply og_sat; (first | (apply sat_seq) | (apply sat_region))) | (apply pe_norm))
  refine op_eqNil (tt := tt) tab rfl rfl rfl ?_
  intro b hb
  cases b
  · repeat' (first | (apply og_ops; (first | (apply og_move; (apply op_move (tt := tt); (focus ((conv => lhs; whnf); try exact rfl)); exact rfl)) | (apply og_buildSlice; (apply op_build0X tab; exact rfl; exact rfl)) | (apply ops_nil))) | (apply og_sat; (first | (apply sat_seq) | (apply sat_region) | (apply sat_cond_f; exact rfl; (exact rfl)) | (apply sat_skip))) | (apply pe_norm))
    by_cases hx : xs = []
    · subst hx
      refine op_append0 tab rfl rfl rfl rfl rfl rfl (.sl _) rfl ?_
      repeat' (first | (apply og_ops; (first | (apply og_assign; (apply op_assign (tt := tt); (focus ((conv => lhs; whnf); try exact rfl)); exact rfl)) | (apply ops_nil))) | (apply og_sat; (apply sat_ret)) | (apply pe_norm))
      (change fnPost _ _ _ _ _ _ _; apply fn_endN; (exact .inr rfl); (focus (repeat' (first | (apply rr_tmp; (focus ((conv => lhs; whnf); try exact rfl)); (exact Wk.same _)) | exact rr_nil))); exact rfl; (exact (List.append_nil _).symm); exact Nat.le_refl _; (focus (repeat' (first | exact trivial | exact .inl rfl | refine ⟨?_, ?_⟩))); exact hso)
      exact .inl ⟨rfl, rfl, rfl⟩
    · refine op_appendN tab rfl rfl rfl rfl rfl (.none 0 0 0) rfl (.sl _) ?_ ?_ rfl ?_
      · simp; exact List.length_pos_iff.2 hx
      · exact fit_of rfl (by simp; omega)
      intro c hc
      rw [Nat.zero_add, List.length_map] at *
      repeat' (first | (apply og_ops; (first | (apply og_assign; (apply op_assign (tt := tt); (focus ((conv => lhs; whnf); try exact rfl)); exact rfl)) | (apply ops_nil))) | (apply og_sat; (apply sat_ret)) | (apply pe_norm))
      (change fnPost _ _ _ _ _ _ _; apply fn_endN (ex := []); (exact .inr rfl); (focus (repeat' (first | (apply rr_tmp; (focus ((conv => lhs; whnf); try exact rfl)); (exact Wk.same _)) | exact rr_nil))); exact rfl; exact (List.append_nil _).symm; (rw [List.length_append]; exact Nat.le_add_right _ _); (focus (repeat' (first | exact trivial | exact .inr (by simp) | refine ⟨?_, ?_⟩))))
      · exact stoOK_push hso (flat_lt (f := ss) (fun _ => rfl) _ _ _)
      · exact .inr ⟨c, hc, rfl, rfl⟩
  · have hx : xs = [] := by simpa using hb rfl
    subst hx
    repeat' (first | (apply og_ops; (first | (apply og_assign; (apply op_nilX (tt := tt); exact rfl; exact rfl)) | (apply ops_nil))) | (apply og_sat; (first | (apply sat_seq) | (apply sat_region) | (apply sat_cond_t; exact rfl; (exact rfl)) | (apply sat_ret))) | (apply pe_norm) | (apply pe_ret))
    (change fnPost _ _ _ _ _ _ _; apply fn_endN; (exact .inr rfl); (focus (repeat' (first | (apply rr_tmp; (focus ((conv => lhs; whnf); try exact rfl)); (exact Wk.same _)) | exact rr_nil))); exact rfl; (exact (List.append_nil _).symm); exact Nat.le_refl _; (focus (repeat' (first | exact trivial | exact .inl rfl | refine ⟨?_, ?_⟩))); exact hso)
    exact .inl ⟨rfl, rfl, rfl⟩
theorem cloneSsO_sat (xs : List (Ss)) (hl : xs.length ≤ 1048576) (σ : Sto) : SatCall Try.prog 78 [.sl .sh 8 (xs.map ss)] σ fun x σ' => x = .sl .ow 8 (xs.map ss) ∧ σ' = σ := by
  refine sat_fn tab Try.func78 rfl (Nat.le_of_ble_eq_true rfl) (by decide) fun hso => ?_
  repeat' (first | (apply og_ops; (first | (apply og_move; (apply op_move (tt := tt); (focus ((conv => lhs; whnf); try exact rfl)); exact rfl)) | (apply og_assign; (apply op_nil (tt := tt); exact rfl; exact ltn rfl)) | (apply ops_nil))) | (apply og_sat; (first | (apply sat_seq) | (apply sat_region))) | (apply pe_norm))
  refine op_eqNil (tt := tt) tab rfl rfl rfl ?_
  intro b hb
  cases b
  · repeat' (first | (apply og_ops; (first | (apply og_move; (apply op_move (tt := tt); (focus ((conv => lhs; whnf); try exact rfl)); exact rfl)) | (apply og_assign; (apply op_take (.inl rfl); (focus ((conv => lhs; whnf); try exact rfl)); exact rfl; exact ltn rfl)) | (apply og_callb; (apply op_appendX tab; (focus ((conv => lhs; whnf); try exact rfl)); exact rfl; exact rfl; exact rfl; exact rfl; exact rfl; (focus ((conv => lhs; whnf); try exact rfl)); exact rfl; (simp only [List.length_map, List.length_append, List.length_cons, List.length_nil, List.length_take]; omega); (exact all_one_map _ (fun _ => rfl) _); exact rfl)) | (apply og_buildSlice; (apply op_buildSliceX .ow tab; exact rfl; (focus ((repeat (apply opvs_cons; (focus ((conv => lhs; whnf); try exact rfl)))); exact opvs_nil)); exact rfl; exact rfl; exact rfl; exact rfl; exact rfl; exact rfl)) | (apply ops_nil))) | (apply og_sat; (first | (apply sat_seq) | (apply sat_region) | (apply sat_cond_f; exact rfl; (exact rfl)) | (apply sat_skip) | (apply sat_ret))) | (apply pe_norm))
    (change fnPost _ _ _ _ _ _ _; apply fn_end1; (exact .inr rfl); exact rfl; (focus ((conv => lhs; whnf); try exact rfl)); exact Wk.same _; exact rfl; exact (List.append_nil _).symm; exact Nat.le_refl _; exact trivial; exact hso)
    exact ⟨rfl, rfl⟩
  · have hx : xs = [] := by simpa using hb rfl
    subst hx
    repeat' (first | (apply og_ops; (first | (apply og_assign; (apply op_nil (tt := tt); exact rfl; exact ltn rfl)) | (apply ops_nil))) | (apply og_sat; (first | (apply sat_seq) | (apply sat_region) | (apply sat_cond_t; exact rfl; (exact rfl)) | (apply sat_ret))) | (apply pe_norm) | (apply pe_ret))
    (change fnPost _ _ _ _ _ _ _; apply fn_end1; (exact .inr rfl); exact rfl; (focus ((conv => lhs; whnf); try exact rfl)); exact Wk.same _; exact rfl; exact (List.append_nil _).symm; exact Nat.le_refl _; exact trivial; exact hso)
    exact ⟨rfl, rfl⟩
theorem setSs_sat (xs : List (Ss)) (i : Int) (v : Ss) (hl : xs.length ≤ 1048576) (hi : i < 0 ∨ i.toNat < xs.length) (σ : Sto) : SatCall Try.prog 38 [.sl .sh 8 (xs.map ss), .int .i64 i, ss v] σ fun r σ' => r = .sl .sh 8 ((setL xs i v).map ss) ∧ σ' = σ := by
  refine sat_fn tab Try.func38 rfl (Nat.le_of_ble_eq_true rfl) (by decide) fun hso => sat_base ?_
  by_cases hn : i < 0
  · have c1 : decide (i < 0) = true := decide_eq_true hn
    have e : (setL xs i v).map ss = xs.map ss ++ [ss v] := by rw [setL, if_pos hn, List.map_append]; rfl
    rw [e]
    repeat' (first | (apply og_ops; (first | (apply og_move; (first | (apply op_take (d := 11) (.inr rfl); (focus ((conv => lhs; whnf); try exact rfl)); exact rfl; exact ltn rfl) | (apply op_move (tt := tt); (focus ((conv => lhs; whnf); try exact rfl)); exact rfl))) | (apply og_assign; (first | (apply op_nil (tt := tt); exact rfl; exact ltn rfl) | (apply op_take (.inl rfl); (focus ((conv => lhs; whnf); try exact rfl)); exact rfl; exact ltn rfl))) | (apply og_callv; (refine op_callP (tt := tt) cal78 (cloneSsO_sat _ ?_ _) rfl rfl rfl rfl rfl ?_; (assumption))) | (apply og_bin; (apply op_bin true tab; (focus ((conv => lhs; whnf; arg 1; whnf; arg 2; whnf); try exact rfl)); (exact trivial); exact rfl)) | (apply og_load; (apply op_lk; (apply lk_loadX tab; exact rfl; exact rfl; exact rfl; (focus ((conv => lhs; whnf; arg 1; whnf; arg 2; whnf); try skip)); (exact Nat.le_of_ble_eq_true rfl)); (intro c h; cases h); exact rfl)) | (apply og_callb; (apply op_appendX tab; (focus ((conv => lhs; whnf); try exact rfl)); exact rfl; exact rfl; exact rfl; exact rfl; exact rfl; (focus ((conv => lhs; whnf); try exact rfl)); exact rfl; (simp only [List.length_map, List.length_append, List.length_cons, List.length_nil, List.length_take]; omega); (exact rfl); exact rfl)) | (apply og_buildSlice; (apply op_buildSliceX .ow tab; exact rfl; (focus ((repeat (apply opvs_cons; (focus ((conv => lhs; whnf); try exact rfl)))); exact opvs_nil)); exact rfl; exact rfl; exact rfl; exact rfl; exact rfl; exact rfl)) | (apply og_box; (apply op_boxX (tt := tt); (focus ((conv => lhs; whnf); try exact rfl)); exact rfl; (exact (rfl : _ = 0)); exact rfl)) | (apply ops_nil))) | (apply og_sat; (first | (apply sat_seq) | (apply sat_region) | (apply sat_cond_t; exact rfl; (assumption)) | (apply sat_ret))) | (apply pe_norm) | (apply pe_ret))
    (change fnPost _ _ _ _ _ _ _; apply fn_endN; (exact .inr rfl); (focus (repeat' (first | (apply rr_tmp; (focus ((conv => lhs; whnf); try exact rfl)); (exact Wk.sh)) | exact rr_nil))); exact rfl; (exact rfl); exact Nat.le_refl _; (focus (repeat' (first | exact trivial | refine ⟨?_, ?_⟩))); exact hso)
    exact ⟨rfl, rfl⟩
  · have c1 : decide (i < 0) = false := decide_eq_false hn
    have hlt : i.toNat < xs.length := by omega
    have h0 : 0 ≤ i := by omega
    have e : setL xs i v = xs.set i.toNat v := if_neg hn
    rw [e]
    have hC := cloneSsR_sat xs hl (σ ++ [.cells (ss v).cells])
    simp only [List.length_append, List.length_cons, List.length_nil, List.append_assoc, List.cons_append, List.nil_append, Nat.zero_add, Nat.reduceAdd] at hC
    repeat' (first | (apply og_ops; (first | (apply og_move; (apply op_move (tt := tt); (focus ((conv => lhs; whnf); try exact rfl)); exact rfl)) | (apply og_assign; (apply op_nil (tt := tt); exact rfl; exact ltn rfl)) | (apply og_box; (apply op_boxX (tt := tt); (focus ((conv => lhs; whnf); try exact rfl)); exact rfl; (exact (rfl : _ = 0)); exact rfl)) | (apply ops_nil))) | (apply og_sat; (first | (apply sat_seq) | (apply sat_region))) | (apply pe_norm))
    refine op_callR (tt := tt) cal78 hC rfl rfl rfl rfl rfl ?_
    rintro r σ' (⟨he, rfl, rfl⟩ | ⟨c, hc, rfl, rfl⟩)
    · subst he; exact absurd hlt (Nat.not_lt_zero _)
    · repeat' (first | (apply og_ops; (first | (apply og_move; (apply op_move (tt := tt); (focus ((conv => lhs; whnf); try exact rfl)); exact rfl)) | (apply og_assign; (apply op_assign (tt := tt); (focus ((conv => lhs; whnf); try exact rfl)); exact rfl)) | (apply og_bin; (apply op_bin true tab; (focus ((conv => lhs; whnf; arg 1; whnf; arg 2; whnf); try exact rfl)); (exact trivial); exact rfl)) | (apply og_load; (apply op_lk; (apply lk_loadX tab; exact rfl; exact rfl; exact rfl; (focus ((conv => lhs; whnf; arg 1; whnf; arg 2; whnf); try skip)); (exact Nat.le_of_ble_eq_true rfl)); (intro c h; cases h); exact rfl)) | (apply og_indexAddr; (apply op_indexAddr tab (tI := 3); (focus ((conv => lhs; whnf; arg 1; whnf; arg 2; whnf); try exact rfl)); (refine ⟨rfl, ?_, ?_⟩ <;> omega); exact rfl)) | (apply ops_nil))) | (apply og_sat; (first | (apply sat_seq) | (apply sat_region) | (apply sat_cond_f; exact rfl; (assumption)) | (apply sat_skip))) | (apply pe_norm))
      refine op_storeVX (k := 1) (v := v) ss tab rfl rfl rfl rfl (fun _ => rfl) rfl rfl rfl hlt ?_
      have hfr := frz_row (i := σ.length + 1) (cap := c) (es := (xs.set i.toNat v).map ss) (sz := 8) (fun e he => by obtain ⟨x, _, rfl⟩ := List.mem_map.1 he; rfl)
      rw [List.length_map, List.length_set] at hfr
      refine ops_freezeX (k := 1) [(0, .sl .sh 8 ((xs.set i.toNat v).map ss))] [.cells (ss v).cells, .gone] rfl (flat_pl fun _ => rfl) ⟨hfr, trivial⟩ ⟨.inl rfl, .inl rfl, trivial⟩ ?_
      repeat' (first | (apply og_ops; (first | (apply og_move; (apply op_move (tt := tt); (focus ((conv => lhs; whnf); try exact rfl)); exact rfl)) | (apply og_assign; (apply op_assign (tt := tt); (focus ((conv => lhs; whnf); try exact rfl)); exact rfl)) | (apply ops_nil))) | (apply og_sat; (first | (apply sat_seq) | (apply sat_region) | (apply sat_ret))) | (apply pe_norm))
      (change fnPost _ _ _ _ _ _ _; apply fn_endN; (exact .inr rfl); (focus (repeat' (first | (apply rr_tmp; (focus ((conv => lhs; whnf); try exact rfl)); (exact Wk.same _)) | exact rr_nil))); exact rfl; (exact rfl); exact Nat.le_refl _; (focus (repeat' (first | exact trivial | refine ⟨?_, ?_⟩))); exact hso)
      exact ⟨rfl, rfl⟩

theorem cloneNmR_sat (xs : List (Nm)) (hl : xs.length ≤ 1048576) (σ : Sto) : SatCall Try.prog 102 [.sl .sh 5 (xs.map nm)] σ fun x σ' =>
    (xs = [] ∧ x = .xsl 0 0 5 0 0 ∧ σ' = σ) ∨ ∃ c, xs.length ≤ c ∧ x = .xsl σ.length 0 5 xs.length c ∧ σ' = σ ++ [.cells (flat (xs.map nm) ++ room ((c - xs.length) * 5))] := by
  refine sat_fn tab Try.func102 rfl (Nat.le_of_ble_eq_true rfl) (by decide) fun hso => ?_
  repeat' (first | (apply og_ops; (first | (apply og_move; (apply op_move (tt := tt); (focus ((conv => lhs; whnf); try exact rfl)); exact rfl)) | (apply og_assign; (apply op_nilX (tt := tt); exact rfl; exact rfl)) | (apply ops_nil))) | (apply og_sat; (first | (apply sat_seq) | (apply sat_region))) | (apply pe_norm))
  refine op_eqNil (tt := tt) tab rfl rfl rfl ?_
  intro b hb
  cases b
  · repeat' (first | (apply og_ops; (first | (apply og_move; (apply op_move (tt := tt); (focus ((conv => lhs; whnf); try exact rfl)); exact rfl)) | (apply og_buildSlice; (apply op_build0X tab; exact rfl; exact rfl)) | (apply ops_nil))) | (apply og_sat; (first | (apply sat_seq) | (apply sat_region) | (apply sat_cond_f; exact rfl; (exact rfl)) | (apply sat_skip))) | (apply pe_norm))
    by_cases hx : xs = []
    · subst hx
      refine op_append0 tab rfl rfl rfl rfl rfl rfl (.sl _) rfl ?_
      repeat' (first | (apply og_ops; (first | (apply og_assign; (apply op_assign (tt := tt); (focus ((conv => lhs; whnf); try exact rfl)); exact rfl)) | (apply ops_nil))) | (apply og_sat; (apply sat_ret)) | (apply pe_norm))
      (change fnPost _ _ _ _ _ _ _; apply fn_endN; (exact .inr rfl); (focus (repeat' (first | (apply rr_tmp; (focus ((conv => lhs; whnf); try exact rfl)); (exact Wk.same _)) | exact rr_nil))); exact rfl; (exact (List.append_nil _).symm); exact Nat.le_refl _; (focus (repeat' (first | exact trivial | exact .inl rfl | refine ⟨?_, ?_⟩))); exact hso)
      exact .inl ⟨rfl, rfl, rfl⟩
    · refine op_appendN tab rfl rfl rfl rfl rfl (.none 0 0 0) rfl (.sl _) ?_ ?_ rfl ?_
      · simp; exact List.length_pos_iff.2 hx
      · exact fit_of rfl (by simp; omega)
      intro c hc
      rw [Nat.zero_add, List.length_map] at *
      repeat' (first | (apply og_ops; (first | (apply og_assign; (apply op_assign (tt := tt); (focus ((conv => lhs; whnf); try exact rfl)); exact rfl)) | (apply ops_nil))) | (apply og_sat; (apply sat_ret)) | (apply pe_norm))
      (change fnPost _ _ _ _ _ _ _; apply fn_endN (ex := []); (exact .inr rfl); (focus (repeat' (first | (apply rr_tmp; (focus ((conv => lhs; whnf); try exact rfl)); (exact Wk.same _)) | exact rr_nil))); exact rfl; exact (List.append_nil _).symm; (rw [List.length_append]; exact Nat.le_add_right _ _); (focus (repeat' (first | exact trivial | exact .inr (by simp) | refine ⟨?_, ?_⟩))))
      · exact stoOK_push hso (flat_lt (f := nm) (fun _ => rfl) _ _ _)
      · exact .inr ⟨c, hc, rfl, rfl⟩
  · have hx : xs = [] := by simpa using hb rfl
    subst hx
    repeat' (first | (apply og_ops; (first | (apply og_assign; (apply op_nilX (tt := tt); exact rfl; exact rfl)) | (apply ops_nil))) | (apply og_sat; (first | (apply sat_seq) | (apply sat_region) | (apply sat_cond_t; exact rfl; (exact rfl)) | (apply sat_ret))) | (apply pe_norm) | (apply pe_ret))
    (change fnPost _ _ _ _ _ _ _; apply fn_endN; (exact .inr rfl); (focus (repeat' (first | (apply rr_tmp; (focus ((conv => lhs; whnf); try exact rfl)); (exact Wk.same _)) | exact rr_nil))); exact rfl; (exact (List.append_nil _).symm); exact Nat.le_refl _; (focus (repeat' (first | exact trivial | exact .inl rfl | refine ⟨?_, ?_⟩))); exact hso)
    exact .inl ⟨rfl, rfl, rfl⟩
theorem cloneNmO_sat (xs : List (Nm)) (hl : xs.length ≤ 1048576) (σ : Sto) : SatCall Try.prog 102 [.sl .sh 5 (xs.map nm)] σ fun x σ' => x = .sl .ow 5 (xs.map nm) ∧ σ' = σ := by
  refine sat_fn tab Try.func102 rfl (Nat.le_of_ble_eq_true rfl) (by decide) fun hso => ?_
  repeat' (first | (apply og_ops; (first | (apply og_move; (apply op_move (tt := tt); (focus ((conv => lhs; whnf); try exact rfl)); exact rfl)) | (apply og_assign; (apply op_nil (tt := tt); exact rfl; exact ltn rfl)) | (apply ops_nil))) | (apply og_sat; (first | (apply sat_seq) | (apply sat_region))) | (apply pe_norm))
  refine op_eqNil (tt := tt) tab rfl rfl rfl ?_
  intro b hb
  cases b
  · repeat' (first | (apply og_ops; (first | (apply og_move; (apply op_move (tt := tt); (focus ((conv => lhs; whnf); try exact rfl)); exact rfl)) | (apply og_assign; (apply op_take (.inl rfl); (focus ((conv => lhs; whnf); try exact rfl)); exact rfl; exact ltn rfl)) | (apply og_callb; (apply op_appendX tab; (focus ((conv => lhs; whnf); try exact rfl)); exact rfl; exact rfl; exact rfl; exact rfl; exact rfl; (focus ((conv => lhs; whnf); try exact rfl)); exact rfl; (simp only [List.length_map, List.length_append, List.length_cons, List.length_nil, List.length_take]; omega); (exact all_one_map _ (fun _ => rfl) _); exact rfl)) | (apply og_buildSlice; (apply op_buildSliceX .ow tab; exact rfl; (focus ((repeat (apply opvs_cons; (focus ((conv => lhs; whnf); try exact rfl)))); exact opvs_nil)); exact rfl; exact rfl; exact rfl; exact rfl; exact rfl; exact rfl)) | (apply ops_nil))) | (apply og_sat; (first | (apply sat_seq) | (apply sat_region) | (apply sat_cond_f; exact rfl; (exact rfl)) | (apply sat_skip) | (apply sat_ret))) | (apply pe_norm))
    (change fnPost _ _ _ _ _ _ _; apply fn_end1; (exact .inr rfl); exact rfl; (focus ((conv => lhs; whnf); try exact rfl)); exact Wk.same _; exact rfl; exact (List.append_nil _).symm; exact Nat.le_refl _; exact trivial; exact hso)
    exact ⟨rfl, rfl⟩
  · have hx : xs = [] := by simpa using hb rfl
    subst hx
    repeat' (first | (apply og_ops; (first | (apply og_assign; (apply op_nil (tt := tt); exact rfl; exact ltn rfl)) | (apply ops_nil))) | (apply og_sat; (first | (apply sat_seq) | (apply sat_region) | (apply sat_cond_t; exact rfl; (exact rfl)) | (apply sat_ret))) | (apply pe_norm) | (apply pe_ret))
    (change fnPost _ _ _ _ _ _ _; apply fn_end1; (exact .inr rfl); exact rfl; (focus ((conv => lhs; whnf); try exact rfl)); exact Wk.same _; exact rfl; exact (List.append_nil _).symm; exact Nat.le_refl _; exact trivial; exact hso)
    exact ⟨rfl, rfl⟩
theorem setNm_sat (xs : List (Nm)) (i : Int) (v : Nm) (hl : xs.length ≤ 1048576) (hi : i < 0 ∨ i.toNat < xs.length) (σ : Sto) : SatCall Try.prog 99 [.sl .sh 5 (xs.map nm), .int .i64 i, nm v] σ fun r σ' => r = .sl .sh 5 ((setL xs i v).map nm) ∧ σ' = σ := by
  refine sat_fn tab Try.func99 rfl (Nat.le_of_ble_eq_true rfl) (by decide) fun hso => sat_base ?_
  by_cases hn : i < 0
  · have c1 : decide (i < 0) = true := decide_eq_true hn
    have e : (setL xs i v).map nm = xs.map nm ++ [nm v] := by rw [setL, if_pos hn, List.map_append]; rfl
    rw [e]
    repeat' (first | (apply og_ops; (first | (apply og_move; (first | (apply op_take (d := 11) (.inr rfl); (focus ((conv => lhs; whnf); try exact rfl)); exact rfl; exact ltn rfl) | (apply op_move (tt := tt); (focus ((conv => lhs; whnf); try exact rfl)); exact rfl))) | (apply og_assign; (first | (apply op_nil (tt := tt); exact rfl; exact ltn rfl) | (apply op_take (.inl rfl); (focus ((conv => lhs; whnf); try exact rfl)); exact rfl; exact ltn rfl))) | (apply og_callv; (refine op_callP (tt := tt) cal102 (cloneNmO_sat _ ?_ _) rfl rfl rfl rfl rfl ?_; (assumption))) | (apply og_bin; (apply op_bin true tab; (focus ((conv => lhs; whnf; arg 1; whnf; arg 2; whnf); try exact rfl)); (exact trivial); exact rfl)) | (apply og_load; (apply op_lk; (apply lk_loadX tab; exact rfl; exact rfl; exact rfl; (focus ((conv => lhs; whnf; arg 1; whnf; arg 2; whnf); try skip)); (exact Nat.le_of_ble_eq_true rfl)); (intro c h; cases h); exact rfl)) | (apply og_callb; (apply op_appendX tab; (focus ((conv => lhs; whnf); try exact rfl)); exact rfl; exact rfl; exact rfl; exact rfl; exact rfl; (focus ((conv => lhs; whnf); try exact rfl)); exact rfl; (simp only [List.length_map, List.length_append, List.length_cons, List.length_nil, List.length_take]; omega); (exact rfl); exact rfl)) | (apply og_buildSlice; (apply op_buildSliceX .ow tab; exact rfl; (focus ((repeat (apply opvs_cons; (focus ((conv => lhs; whnf); try exact rfl)))); exact opvs_nil)); exact rfl; exact rfl; exact rfl; exact rfl; exact rfl; exact rfl)) | (apply og_box; (apply op_boxX (tt := tt); (focus ((conv => lhs; whnf); try exact rfl)); exact rfl; (exact (rfl : _ = 0)); exact rfl)) | (apply ops_nil))) | (apply og_sat; (first | (apply sat_seq) | (apply sat_region) | (apply sat_cond_t; exact rfl; (assumption)) | (apply sat_ret))) | (apply pe_norm) | (apply pe_ret))
    (change fnPost _ _ _ _ _ _ _; apply fn_endN; (exact .inr rfl); (focus (repeat' (first | (apply rr_tmp; (focus ((conv => lhs; whnf); try exact rfl)); (exact Wk.sh)) | exact rr_nil))); exact rfl; (exact rfl); exact Nat.le_refl _; (focus (repeat' (first | exact trivial | refine ⟨?_, ?_⟩))); exact hso)
    exact ⟨rfl, rfl⟩
  · have c1 : decide (i < 0) = false := decide_eq_false hn
    have hlt : i.toNat < xs.length := by omega
    have h0 : 0 ≤ i := by omega
    have e : setL xs i v = xs.set i.toNat v := if_neg hn
    rw [e]
    have hC := cloneNmR_sat xs hl (σ ++ [.cells (nm v).cells])
    simp only [List.length_append, List.length_cons, List.length_nil, List.append_assoc, List.cons_append, List.nil_append, Nat.zero_add, Nat.reduceAdd] at hC
    repeat' (first | (apply og_ops; (first | (apply og_move; (apply op_move (tt := tt); (focus ((conv => lhs; whnf); try exact rfl)); exact rfl)) | (apply og_assign; (apply op_nil (tt := tt); exact rfl; exact ltn rfl)) | (apply og_box; (apply op_boxX (tt := tt); (focus ((conv => lhs; whnf); try exact rfl)); exact rfl; (exact (rfl : _ = 0)); exact rfl)) | (apply ops_nil))) | (apply og_sat; (first | (apply sat_seq) | (apply sat_region))) | (apply pe_norm))
    refine op_callR (tt := tt) cal102 hC rfl rfl rfl rfl rfl ?_
    rintro r σ' (⟨he, rfl, rfl⟩ | ⟨c, hc, rfl, rfl⟩)
    · subst he; exact absurd hlt (Nat.not_lt_zero _)
    · repeat' (first | (apply og_ops; (first | (apply og_move; (apply op_move (tt := tt); (focus ((conv => lhs; whnf); try exact rfl)); exact rfl)) | (apply og_assign; (apply op_assign (tt := tt); (focus ((conv => lhs; whnf); try exact rfl)); exact rfl)) | (apply og_bin; (apply op_bin true tab; (focus ((conv => lhs; whnf; arg 1; whnf; arg 2; whnf); try exact rfl)); (exact trivial); exact rfl)) | (apply og_load; (apply op_lk; (apply lk_loadX tab; exact rfl; exact rfl; exact rfl; (focus ((conv => lhs; whnf; arg 1; whnf; arg 2; whnf); try skip)); (exact Nat.le_of_ble_eq_true rfl)); (intro c h; cases h); exact rfl)) | (apply og_indexAddr; (apply op_indexAddr tab (tI := 3); (focus ((conv => lhs; whnf; arg 1; whnf; arg 2; whnf); try exact rfl)); (refine ⟨rfl, ?_, ?_⟩ <;> omega); exact rfl)) | (apply ops_nil))) | (apply og_sat; (first | (apply sat_seq) | (apply sat_region) | (apply sat_cond_f; exact rfl; (assumption)) | (apply sat_skip))) | (apply pe_norm))
      refine op_storeVX (k := 1) (v := v) nm tab rfl rfl rfl rfl (fun _ => rfl) rfl rfl rfl hlt ?_
      have hfr := frz_row (i := σ.length + 1) (cap := c) (es := (xs.set i.toNat v).map nm) (sz := 5) (fun e he => by obtain ⟨x, _, rfl⟩ := List.mem_map.1 he; rfl)
      rw [List.length_map, List.length_set] at hfr
      refine ops_freezeX (k := 1) [(0, .sl .sh 5 ((xs.set i.toNat v).map nm))] [.cells (nm v).cells, .gone] rfl (flat_pl fun _ => rfl) ⟨hfr, trivial⟩ ⟨.inl rfl, .inl rfl, trivial⟩ ?_
      repeat' (first | (apply og_ops; (first | (apply og_move; (apply op_move (tt := tt); (focus ((conv => lhs; whnf); try exact rfl)); exact rfl)) | (apply og_assign; (apply op_assign (tt := tt); (focus ((conv => lhs; whnf); try exact rfl)); exact rfl)) | (apply ops_nil))) | (apply og_sat; (first | (apply sat_seq) | (apply sat_region) | (apply sat_ret))) | (apply pe_norm))
      (change fnPost _ _ _ _ _ _ _; apply fn_endN; (exact .inr rfl); (focus (repeat' (first | (apply rr_tmp; (focus ((conv => lhs; whnf); try exact rfl)); (exact Wk.same _)) | exact rr_nil))); exact rfl; (exact rfl); exact Nat.le_refl _; (focus (repeat' (first | exact trivial | refine ⟨?_, ?_⟩))); exact hso)
      exact ⟨rfl, rfl⟩

theorem cloneVlR_sat (xs : List (Vl)) (hl : xs.length ≤ 1048576) (σ : Sto) : SatCall Try.prog 111 [.sl .sh 9 (xs.map vl)] σ fun x σ' =>
    (xs = [] ∧ x = .xsl 0 0 9 0 0 ∧ σ' = σ) ∨ ∃ c, xs.length ≤ c ∧ x = .xsl σ.length 0 9 xs.length c ∧ σ' = σ ++ [.cells (flat (xs.map vl) ++ room ((c - xs.length) * 9))] := by
  refine sat_fn tab Try.func111 rfl (Nat.le_of_ble_eq_true rfl) (by decide) fun hso => ?_
  repeat' (first | (apply og_ops; (first | (apply og_move; (apply op_move (tt := tt); (focus ((conv => lhs; whnf); try exact rfl)); exact rfl)) | (apply og_assign; (apply op_nilX (tt := tt); exact rfl; exact rfl)) | (apply ops_nil))) | (apply og_sat; (first | (apply sat_seq) | (apply sat_region))) | (apply pe_norm))
  refine op_eqNil (tt := tt) tab rfl rfl rfl ?_
  intro b hb
  cases b
  · repeat' (first | (apply og_ops; (first | (apply og_move; (apply op_move (tt := tt); (focus ((conv => lhs; whnf); try exact rfl)); exact rfl)) | (apply og_buildSlice; (apply op_build0X tab; exact rfl; exact rfl)) | (apply ops_nil))) | (apply og_sat; (first | (apply sat_seq) | (apply sat_region) | (apply sat_cond_f; exact rfl; (exact rfl)) | (apply sat_skip))) | (apply pe_norm))
    by_cases hx : xs = []
    · subst hx
      refine op_append0 tab rfl rfl rfl rfl rfl rfl (.sl _) rfl ?_
      repeat' (first | (apply og_ops; (first | (apply og_assign; (apply op_assign (tt := tt); (focus ((conv => lhs; whnf); try exact rfl)); exact rfl)) | (apply ops_nil))) | (apply og_sat; (apply sat_ret)) | (apply pe_norm))
      (change fnPost _ _ _ _ _ _ _; apply fn_endN; (exact .inr rfl); (focus (repeat' (first | (apply rr_tmp; (focus ((conv => lhs; whnf); try exact rfl)); (exact Wk.same _)) | exact rr_nil))); exact rfl; (exact (List.append_nil _).symm); exact Nat.le_refl _; (focus (repeat' (first | exact trivial | exact .inl rfl | refine ⟨?_, ?_⟩))); exact hso)
      exact .inl ⟨rfl, rfl, rfl⟩
    · refine op_appendN tab rfl rfl rfl rfl rfl (.none 0 0 0) rfl (.sl _) ?_ ?_ rfl ?_
      · simp; exact List.length_pos_iff.2 hx
      · exact fit_of rfl (by simp; omega)
      intro c hc
      rw [Nat.zero_add, List.length_map] at *
      repeat' (first | (apply og_ops; (first | (apply og_assign; (apply op_assign (tt := tt); (focus ((conv => lhs; whnf); try exact rfl)); exact rfl)) | (apply ops_nil))) | (apply og_sat; (apply sat_ret)) | (apply pe_norm))
      (change fnPost _ _ _ _ _ _ _; apply fn_endN (ex := []); (exact .inr rfl); (focus (repeat' (first | (apply rr_tmp; (focus ((conv => lhs; whnf); try exact rfl)); (exact Wk.same _)) | exact rr_nil))); exact rfl; exact (List.append_nil _).symm; (rw [List.length_append]; exact Nat.le_add_right _ _); (focus (repeat' (first | exact trivial | exact .inr (by simp) | refine ⟨?_, ?_⟩))))
      · exact stoOK_push hso (flat_lt (f := vl) (fun _ => rfl) _ _ _)
      · exact .inr ⟨c, hc, rfl, rfl⟩
  · have hx : xs = [] := by simpa using hb rfl
    subst hx
    repeat' (first | (apply og_ops; (first | (apply og_assign; (apply op_nilX (tt := tt); exact rfl; exact rfl)) | (apply ops_nil))) | (apply og_sat; (first | (apply sat_seq) | (apply sat_region) | (apply sat_cond_t; exact rfl; (exact rfl)) | (apply sat_ret))) | (apply pe_norm) | (apply pe_ret))
    (change fnPost _ _ _ _ _ _ _; apply fn_endN; (exact .inr rfl); (focus (repeat' (first | (apply rr_tmp; (focus ((conv => lhs; whnf); try exact rfl)); (exact Wk.same _)) | exact rr_nil))); exact rfl; (exact (List.append_nil _).symm); exact Nat.le_refl _; (focus (repeat' (first | exact trivial | exact .inl rfl | refine ⟨?_, ?_⟩))); exact hso)
    exact .inl ⟨rfl, rfl, rfl⟩
theorem cloneVlO_sat (xs : List (Vl)) (hl : xs.length ≤ 1048576) (σ : Sto) : SatCall Try.prog 111 [.sl .sh 9 (xs.map vl)] σ fun x σ' => x = .sl .ow 9 (xs.map vl) ∧ σ' = σ := by
  refine sat_fn tab Try.func111 rfl (Nat.le_of_ble_eq_true rfl) (by decide) fun hso => ?_
  repeat' (first | (apply og_ops; (first | (apply og_move; (apply op_move (tt := tt); (focus ((conv => lhs; whnf); try exact rfl)); exact rfl)) | (apply og_assign; (apply op_nil (tt := tt); exact rfl; exact ltn rfl)) | (apply ops_nil))) | (apply og_sat; (first | (apply sat_seq) | (apply sat_region))) | (apply pe_norm))
  refine op_eqNil (tt := tt) tab rfl rfl rfl ?_
  intro b hb
  cases b
  · repeat' (first | (apply og_ops; (first | (apply og_move; (apply op_move (tt := tt); (focus ((conv => lhs; whnf); try exact rfl)); exact rfl)) | (apply og_assign; (apply op_take (.inl rfl); (focus ((conv => lhs; whnf); try exact rfl)); exact rfl; exact ltn rfl)) | (apply og_callb; (apply op_appendX tab; (focus ((conv => lhs; whnf); try exact rfl)); exact rfl; exact rfl; exact rfl; exact rfl; exact rfl; (focus ((conv => lhs; whnf); try exact rfl)); exact rfl; (simp only [List.length_map, List.length_append, List.length_cons, List.length_nil, List.length_take]; omega); (exact all_one_map _ (fun _ => rfl) _); exact rfl)) | (apply og_buildSlice; (apply op_buildSliceX .ow tab; exact rfl; (focus ((repeat (apply opvs_cons; (focus ((conv => lhs; whnf); try exact rfl)))); exact opvs_nil)); exact rfl; exact rfl; exact rfl; exact rfl; exact rfl; exact rfl)) | (apply ops_nil))) | (apply og_sat; (first | (apply sat_seq) | (apply sat_region) | (apply sat_cond_f; exact rfl; (exact rfl)) | (apply sat_skip) | (apply sat_ret))) | (apply pe_norm))
    (change fnPost _ _ _ _ _ _ _; apply fn_end1; (exact .inr rfl); exact rfl; (focus ((conv => lhs; whnf); try exact rfl)); exact Wk.same _; exact rfl; exact (List.append_nil _).symm; exact Nat.le_refl _; exact trivial; exact hso)
    exact ⟨rfl, rfl⟩
  · have hx : xs = [] := by simpa using hb rfl
    subst hx
    repeat' (first | (apply og_ops; (first | (apply og_assign; (apply op_nil (tt := tt); exact rfl; exact ltn rfl)) | (apply ops_nil))) | (apply og_sat; (first | (apply sat_seq) | (apply sat_region) | (apply sat_cond_t; exact rfl; (exact rfl)) | (apply sat_ret))) | (apply pe_norm) | (apply pe_ret))
    (change fnPost _ _ _ _ _ _ _; apply fn_end1; (exact .inr rfl); exact rfl; (focus ((conv => lhs; whnf); try exact rfl)); exact Wk.same _; exact rfl; exact (List.append_nil _).symm; exact Nat.le_refl _; exact trivial; exact hso)
    exact ⟨rfl, rfl⟩
theorem setVl_sat (xs : List (Vl)) (i : Int) (v : Vl) (hl : xs.length ≤ 1048576) (hi : i < 0 ∨ i.toNat < xs.length) (σ : Sto) : SatCall Try.prog 97 [.sl .sh 9 (xs.map vl), .int .i64 i, vl v] σ fun r σ' => r = .sl .sh 9 ((setL xs i v).map vl) ∧ σ' = σ := by
  refine sat_fn tab Try.func97 rfl (Nat.le_of_ble_eq_true rfl) (by decide) fun hso => sat_base ?_
  by_cases hn : i < 0
  · have c1 : decide (i < 0) = true := decide_eq_true hn
    have e : (setL xs i v).map vl = xs.map vl ++ [vl v] := by rw [setL, if_pos hn, List.map_append]; rfl
    rw [e]
    repeat' (first | (apply og_ops; (first | (apply og_move; (first | (apply op_take (d := 11) (.inr rfl); (focus ((conv => lhs; whnf); try exact rfl)); exact rfl; exact ltn rfl) | (apply op_move (tt := tt); (focus ((conv => lhs; whnf); try exact rfl)); exact rfl))) | (apply og_assign; (first | (apply op_nil (tt := tt); exact rfl; exact ltn rfl) | (apply op_take (.inl rfl); (focus ((conv => lhs; whnf); try exact rfl)); exact rfl; exact ltn rfl))) | (apply og_callv; (refine op_callP (tt := tt) cal111 (cloneVlO_sat _ ?_ _) rfl rfl rfl rfl rfl ?_; (assumption))) | (apply og_bin; (apply op_bin true tab; (focus ((conv => lhs; whnf; arg 1; whnf; arg 2; whnf); try exact rfl)); (exact trivial); exact rfl)) | (apply og_load; (apply op_lk; (apply lk_loadX tab; exact rfl; exact rfl; exact rfl; (focus ((conv => lhs; whnf; arg 1; whnf; arg 2; whnf); try skip)); (exact Nat.le_of_ble_eq_true rfl)); (intro c h; cases h); exact rfl)) | (apply og_callb; (apply op_appendX tab; (focus ((conv => lhs; whnf); try exact rfl)); exact rfl; exact rfl; exact rfl; exact rfl; exact rfl; (focus ((conv => lhs; whnf); try exact rfl)); exact rfl; (simp only [List.length_map, List.length_append, List.length_cons, List.length_nil, List.length_take]; omega); (exact rfl); exact rfl)) | (apply og_buildSlice; (apply op_buildSliceX .ow tab; exact rfl; (focus ((repeat (apply opvs_cons; (focus ((conv => lhs; whnf); try exact rfl)))); exact opvs_nil)); exact rfl; exact rfl; exact rfl; exact rfl; exact rfl; exact rfl)) | (apply og_box; (apply op_boxX (tt := tt); (focus ((conv => lhs; whnf); try exact rfl)); exact rfl; (exact (rfl : _ = 0)); exact rfl)) | (apply ops_nil))) | (apply og_sat; (first | (apply sat_seq) | (apply sat_region) | (apply sat_cond_t; exact rfl; (assumption)) | (apply sat_ret))) | (apply pe_norm) | (apply pe_ret))
    (change fnPost _ _ _ _ _ _ _; apply fn_endN; (exact .inr rfl); (focus (repeat' (first | (apply rr_tmp; (focus ((conv => lhs; whnf); try exact rfl)); (exact Wk.sh)) | exact rr_nil))); exact rfl; (exact rfl); exact Nat.le_refl _; (focus (repeat' (first | exact trivial | refine ⟨?_, ?_⟩))); exact hso)
    exact ⟨rfl, rfl⟩
  · have c1 : decide (i < 0) = false := decide_eq_false hn
    have hlt : i.toNat < xs.length := by omega
    have h0 : 0 ≤ i := by omega
    have e : setL xs i v = xs.set i.toNat v := if_neg hn
    rw [e]
    have hC := cloneVlR_sat xs hl (σ ++ [.cells (vl v).cells])
    simp only [List.length_append, List.length_cons, List.length_nil, List.append_assoc, List.cons_append, List.nil_append, Nat.zero_add, Nat.reduceAdd] at hC
    repeat' (first | (apply og_ops; (first | (apply og_move; (apply op_move (tt := tt); (focus ((conv => lhs; whnf); try exact rfl)); exact rfl)) | (apply og_assign; (apply op_nil (tt := tt); exact rfl; exact ltn rfl)) | (apply og_box; (apply op_boxX (tt := tt); (focus ((conv => lhs; whnf); try exact rfl)); exact rfl; (exact (rfl : _ = 0)); exact rfl)) | (apply ops_nil))) | (apply og_sat; (first | (apply sat_seq) | (apply sat_region))) | (apply pe_norm))
    refine op_callR (tt := tt) cal111 hC rfl rfl rfl rfl rfl ?_
    rintro r σ' (⟨he, rfl, rfl⟩ | ⟨c, hc, rfl, rfl⟩)
    · subst he; exact absurd hlt (Nat.not_lt_zero _)
    · repeat' (first | (apply og_ops; (first | (apply og_move; (apply op_move (tt := tt); (focus ((conv => lhs; whnf); try exact rfl)); exact rfl)) | (apply og_assign; (apply op_assign (tt := tt); (focus ((conv => lhs; whnf); try exact rfl)); exact rfl)) | (apply og_bin; (apply op_bin true tab; (focus ((conv => lhs; whnf; arg 1; whnf; arg 2; whnf); try exact rfl)); (exact trivial); exact rfl)) | (apply og_load; (apply op_lk; (apply lk_loadX tab; exact rfl; exact rfl; exact rfl; (focus ((conv => lhs; whnf; arg 1; whnf; arg 2; whnf); try skip)); (exact Nat.le_of_ble_eq_true rfl)); (intro c h; cases h); exact rfl)) | (apply og_indexAddr; (apply op_indexAddr tab (tI := 3); (focus ((conv => lhs; whnf; arg 1; whnf; arg 2; whnf); try exact rfl)); (refine ⟨rfl, ?_, ?_⟩ <;> omega); exact rfl)) | (apply ops_nil))) | (apply og_sat; (first | (apply sat_seq) | (apply sat_region) | (apply sat_cond_f; exact rfl; (assumption)) | (apply sat_skip))) | (apply pe_norm))
      refine op_storeVX (k := 1) (v := v) vl tab rfl rfl rfl rfl (fun _ => rfl) rfl rfl rfl hlt ?_
      have hfr := frz_row (i := σ.length + 1) (cap := c) (es := (xs.set i.toNat v).map vl) (sz := 9) (fun e he => by obtain ⟨x, _, rfl⟩ := List.mem_map.1 he; rfl)
      rw [List.length_map, List.length_set] at hfr
      refine ops_freezeX (k := 1) [(0, .sl .sh 9 ((xs.set i.toNat v).map vl))] [.cells (vl v).cells, .gone] rfl (flat_pl fun _ => rfl) ⟨hfr, trivial⟩ ⟨.inl rfl, .inl rfl, trivial⟩ ?_
      repeat' (first | (apply og_ops; (first | (apply og_move; (apply op_move (tt := tt); (focus ((conv => lhs; whnf); try exact rfl)); exact rfl)) | (apply og_assign; (apply op_assign (tt := tt); (focus ((conv => lhs; whnf); try exact rfl)); exact rfl)) | (apply ops_nil))) | (apply og_sat; (first | (apply sat_seq) | (apply sat_region) | (apply sat_ret))) | (apply pe_norm))
      (change fnPost _ _ _ _ _ _ _; apply fn_endN; (exact .inr rfl); (focus (repeat' (first | (apply rr_tmp; (focus ((conv => lhs; whnf); try exact rfl)); (exact Wk.same _)) | exact rr_nil))); exact rfl; (exact rfl); exact Nat.le_refl _; (focus (repeat' (first | exact trivial | refine ⟨?_, ?_⟩))); exact hso)
      exact ⟨rfl, rfl⟩

theorem cloneSpR_sat (xs : List (Int × Int)) (hl : xs.length ≤ 1048576) (σ : Sto) : SatCall Try.prog 112 [.sl .sh 2 (xs.map plc)] σ fun x σ' =>
    (xs = [] ∧ x = .xsl 0 0 2 0 0 ∧ σ' = σ) ∨ ∃ c, xs.length ≤ c ∧ x = .xsl σ.length 0 2 xs.length c ∧ σ' = σ ++ [.cells (flat (xs.map plc) ++ room ((c - xs.length) * 2))] := by
  refine sat_fn tab Try.func112 rfl (Nat.le_of_ble_eq_true rfl) (by decide) fun hso => ?_
  repeat' (first | (apply og_ops; (first | (apply og_move; (apply op_move (tt := tt); (focus ((conv => lhs; whnf); try exact rfl)); exact rfl)) | (apply og_assign; (apply op_nilX (tt := tt); exact rfl; exact rfl)) | (apply ops_nil))) | (apply og_sat; (first | (apply sat_seq) | (apply sat_region))) | (apply pe_norm))
  refine op_eqNil (tt := tt) tab rfl rfl rfl ?_
  intro b hb
  cases b
  · repeat' (first | (apply og_ops; (first | (apply og_move; (apply op_move (tt := tt); (focus ((conv => lhs; whnf); try exact rfl)); exact rfl)) | (apply og_buildSlice; (apply op_build0X tab; exact rfl; exact rfl)) | (apply ops_nil))) | (apply og_sat; (first | (apply sat_seq) | (apply sat_region) | (apply sat_cond_f; exact rfl; (exact rfl)) | (apply sat_skip))) | (apply pe_norm))
    by_cases hx : xs = []
    · subst hx
      refine op_append0 tab rfl rfl rfl rfl rfl rfl (.sl _) rfl ?_
      repeat' (first | (apply og_ops; (first | (apply og_assign; (apply op_assign (tt := tt); (focus ((conv => lhs; whnf); try exact rfl)); exact rfl)) | (apply ops_nil))) | (apply og_sat; (apply sat_ret)) | (apply pe_norm))
      (change fnPost _ _ _ _ _ _ _; apply fn_endN; (exact .inr rfl); (focus (repeat' (first | (apply rr_tmp; (focus ((conv => lhs; whnf); try exact rfl)); (exact Wk.same _)) | exact rr_nil))); exact rfl; (exact (List.append_nil _).symm); exact Nat.le_refl _; (focus (repeat' (first | exact trivial | exact .inl rfl | refine ⟨?_, ?_⟩))); exact hso)
      exact .inl ⟨rfl, rfl, rfl⟩
    · refine op_appendN tab rfl rfl rfl rfl rfl (.none 0 0 0) rfl (.sl _) ?_ ?_ rfl ?_
      · simp; exact List.length_pos_iff.2 hx
      · exact fit_of rfl (by simp; omega)
      intro c hc
      rw [Nat.zero_add, List.length_map] at *
      repeat' (first | (apply og_ops; (first | (apply og_assign; (apply op_assign (tt := tt); (focus ((conv => lhs; whnf); try exact rfl)); exact rfl)) | (apply ops_nil))) | (apply og_sat; (apply sat_ret)) | (apply pe_norm))
      (change fnPost _ _ _ _ _ _ _; apply fn_endN (ex := []); (exact .inr rfl); (focus (repeat' (first | (apply rr_tmp; (focus ((conv => lhs; whnf); try exact rfl)); (exact Wk.same _)) | exact rr_nil))); exact rfl; exact (List.append_nil _).symm; (rw [List.length_append]; exact Nat.le_add_right _ _); (focus (repeat' (first | exact trivial | exact .inr (by simp) | refine ⟨?_, ?_⟩))))
      · exact stoOK_push hso (flat_lt (f := plc) (fun _ => rfl) _ _ _)
      · exact .inr ⟨c, hc, rfl, rfl⟩
  · have hx : xs = [] := by simpa using hb rfl
    subst hx
    repeat' (first | (apply og_ops; (first | (apply og_assign; (apply op_nilX (tt := tt); exact rfl; exact rfl)) | (apply ops_nil))) | (apply og_sat; (first | (apply sat_seq) | (apply sat_region) | (apply sat_cond_t; exact rfl; (exact rfl)) | (apply sat_ret))) | (apply pe_norm) | (apply pe_ret))
    (change fnPost _ _ _ _ _ _ _; apply fn_endN; (exact .inr rfl); (focus (repeat' (first | (apply rr_tmp; (focus ((conv => lhs; whnf); try exact rfl)); (exact Wk.same _)) | exact rr_nil))); exact rfl; (exact (List.append_nil _).symm); exact Nat.le_refl _; (focus (repeat' (first | exact trivial | exact .inl rfl | refine ⟨?_, ?_⟩))); exact hso)
    exact .inl ⟨rfl, rfl, rfl⟩
theorem cloneSpO_sat (xs : List (Int × Int)) (hl : xs.length ≤ 1048576) (σ : Sto) : SatCall Try.prog 112 [.sl .sh 2 (xs.map plc)] σ fun x σ' => x = .sl .ow 2 (xs.map plc) ∧ σ' = σ := by
  refine sat_fn tab Try.func112 rfl (Nat.le_of_ble_eq_true rfl) (by decide) fun hso => ?_
  repeat' (first | (apply og_ops; (first | (apply og_move; (apply op_move (tt := tt); (focus ((conv => lhs; whnf); try exact rfl)); exact rfl)) | (apply og_assign; (apply op_nil (tt := tt); exact rfl; exact ltn rfl)) | (apply ops_nil))) | (apply og_sat; (first | (apply sat_seq) | (apply sat_region))) | (apply pe_norm))
  refine op_eqNil (tt := tt) tab rfl rfl rfl ?_
  intro b hb
  cases b
  · repeat' (first | (apply og_ops; (first | (apply og_move; (apply op_move (tt := tt); (focus ((conv => lhs; whnf); try exact rfl)); exact rfl)) | (apply og_assign; (apply op_take (.inl rfl); (focus ((conv => lhs; whnf); try exact rfl)); exact rfl; exact ltn rfl)) | (apply og_callb; (apply op_appendX tab; (focus ((conv => lhs; whnf); try exact rfl)); exact rfl; exact rfl; exact rfl; exact rfl; exact rfl; (focus ((conv => lhs; whnf); try exact rfl)); exact rfl; (simp only [List.length_map, List.length_append, List.length_cons, List.length_nil, List.length_take]; omega); (exact all_one_map _ (fun _ => rfl) _); exact rfl)) | (apply og_buildSlice; (apply op_buildSliceX .ow tab; exact rfl; (focus ((repeat (apply opvs_cons; (focus ((conv => lhs; whnf); try exact rfl)))); exact opvs_nil)); exact rfl; exact rfl; exact rfl; exact rfl; exact rfl; exact rfl)) | (apply ops_nil))) | (apply og_sat; (first | (apply sat_seq) | (apply sat_region) | (apply sat_cond_f; exact rfl; (exact rfl)) | (apply sat_skip) | (apply sat_ret))) | (apply pe_norm))
    (change fnPost _ _ _ _ _ _ _; apply fn_end1; (exact .inr rfl); exact rfl; (focus ((conv => lhs; whnf); try exact rfl)); exact Wk.same _; exact rfl; exact (List.append_nil _).symm; exact Nat.le_refl _; exact trivial; exact hso)
    exact ⟨rfl, rfl⟩
  · have hx : xs = [] := by simpa using hb rfl
    subst hx
    repeat' (first | (apply og_ops; (first | (apply og_assign; (apply op_nil (tt := tt); exact rfl; exact ltn rfl)) | (apply ops_nil))) | (apply og_sat; (first | (apply sat_seq) | (apply sat_region) | (apply sat_cond_t; exact rfl; (exact rfl)) | (apply sat_ret))) | (apply pe_norm) | (apply pe_ret))
    (change fnPost _ _ _ _ _ _ _; apply fn_end1; (exact .inr rfl); exact rfl; (focus ((conv => lhs; whnf); try exact rfl)); exact Wk.same _; exact rfl; exact (List.append_nil _).symm; exact Nat.le_refl _; exact trivial; exact hso)
    exact ⟨rfl, rfl⟩
theorem setSp_sat (xs : List (Int × Int)) (i : Int) (v : Int × Int) (hl : xs.length ≤ 1048576) (hi : i < 0 ∨ i.toNat < xs.length) (σ : Sto) : SatCall Try.prog 98 [.sl .sh 2 (xs.map plc), .int .i64 i, plc v] σ fun r σ' => r = .sl .sh 2 ((setL xs i v).map plc) ∧ σ' = σ := by
  refine sat_fn tab Try.func98 rfl (Nat.le_of_ble_eq_true rfl) (by decide) fun hso => sat_base ?_
  by_cases hn : i < 0
  · have c1 : decide (i < 0) = true := decide_eq_true hn
    have e : (setL xs i v).map plc = xs.map plc ++ [plc v] := by rw [setL, if_pos hn, List.map_append]; rfl
    rw [e]
    repeat' (first | (apply og_ops; (first | (apply og_move; (first | (apply op_take (d := 11) (.inr rfl); (focus ((conv => lhs; whnf); try exact rfl)); exact rfl; exact ltn rfl) | (apply op_move (tt := tt); (focus ((conv => lhs; whnf); try exact rfl)); exact rfl))) | (apply og_assign; (first | (apply op_nil (tt := tt); exact rfl; exact ltn rfl) | (apply op_take (.inl rfl); (focus ((conv => lhs; whnf); try exact rfl)); exact rfl; exact ltn rfl))) | (apply og_callv; (refine op_callP (tt := tt) cal112 (cloneSpO_sat _ ?_ _) rfl rfl rfl rfl rfl ?_; (assumption))) | (apply og_bin; (apply op_bin true tab; (focus ((conv => lhs; whnf; arg 1; whnf; arg 2; whnf); try exact rfl)); (exact trivial); exact rfl)) | (apply og_load; (apply op_lk; (apply lk_loadX tab; exact rfl; exact rfl; exact rfl; (focus ((conv => lhs; whnf; arg 1; whnf; arg 2; whnf); try skip)); (exact Nat.le_of_ble_eq_true rfl)); (intro c h; cases h); exact rfl)) | (apply og_callb; (apply op_appendX tab; (focus ((conv => lhs; whnf); try exact rfl)); exact rfl; exact rfl; exact rfl; exact rfl; exact rfl; (focus ((conv => lhs; whnf); try exact rfl)); exact rfl; (simp only [List.length_map, List.length_append, List.length_cons, List.length_nil, List.length_take]; omega); (exact rfl); exact rfl)) | (apply og_buildSlice; (apply op_buildSliceX .ow tab; exact rfl; (focus ((repeat (apply opvs_cons; (focus ((conv => lhs; whnf); try exact rfl)))); exact opvs_nil)); exact rfl; exact rfl; exact rfl; exact rfl; exact rfl; exact rfl)) | (apply og_box; (apply op_boxX (tt := tt); (focus ((conv => lhs; whnf); try exact rfl)); exact rfl; (exact (rfl : _ = 0)); exact rfl)) | (apply ops_nil))) | (apply og_sat; (first | (apply sat_seq) | (apply sat_region) | (apply sat_cond_t; exact rfl; (assumption)) | (apply sat_ret))) | (apply pe_norm) | (apply pe_ret))
    (change fnPost _ _ _ _ _ _ _; apply fn_endN; (exact .inr rfl); (focus (repeat' (first | (apply rr_tmp; (focus ((conv => lhs; whnf); try exact rfl)); (exact Wk.sh)) | exact rr_nil))); exact rfl; (exact rfl); exact Nat.le_refl _; (focus (repeat' (first | exact trivial | refine ⟨?_, ?_⟩))); exact hso)
    exact ⟨rfl, rfl⟩
  · have c1 : decide (i < 0) = false := decide_eq_false hn
    have hlt : i.toNat < xs.length := by omega
    have h0 : 0 ≤ i := by omega
    have e : setL xs i v = xs.set i.toNat v := if_neg hn
    rw [e]
    have hC := cloneSpR_sat xs hl (σ ++ [.cells (plc v).cells])
    simp only [List.length_append, List.length_cons, List.length_nil, List.append_assoc, List.cons_append, List.nil_append, Nat.zero_add, Nat.reduceAdd] at hC
    repeat' (first | (apply og_ops; (first | (apply og_move; (apply op_move (tt := tt); (focus ((conv => lhs; whnf); try exact rfl)); exact rfl)) | (apply og_assign; (apply op_nil (tt := tt); exact rfl; exact ltn rfl)) | (apply og_box; (apply op_boxX (tt := tt); (focus ((conv => lhs; whnf); try exact rfl)); exact rfl; (exact (rfl : _ = 0)); exact rfl)) | (apply ops_nil))) | (apply og_sat; (first | (apply sat_seq) | (apply sat_region))) | (apply pe_norm))
    refine op_callR (tt := tt) cal112 hC rfl rfl rfl rfl rfl ?_
    rintro r σ' (⟨he, rfl, rfl⟩ | ⟨c, hc, rfl, rfl⟩)
    · subst he; exact absurd hlt (Nat.not_lt_zero _)
    · repeat' (first | (apply og_ops; (first | (apply og_move; (apply op_move (tt := tt); (focus ((conv => lhs; whnf); try exact rfl)); exact rfl)) | (apply og_assign; (apply op_assign (tt := tt); (focus ((conv => lhs; whnf); try exact rfl)); exact rfl)) | (apply og_bin; (apply op_bin true tab; (focus ((conv => lhs; whnf; arg 1; whnf; arg 2; whnf); try exact rfl)); (exact trivial); exact rfl)) | (apply og_load; (apply op_lk; (apply lk_loadX tab; exact rfl; exact rfl; exact rfl; (focus ((conv => lhs; whnf; arg 1; whnf; arg 2; whnf); try skip)); (exact Nat.le_of_ble_eq_true rfl)); (intro c h; cases h); exact rfl)) | (apply og_indexAddr; (apply op_indexAddr tab (tI := 3); (focus ((conv => lhs; whnf; arg 1; whnf; arg 2; whnf); try exact rfl)); (refine ⟨rfl, ?_, ?_⟩ <;> omega); exact rfl)) | (apply ops_nil))) | (apply og_sat; (first | (apply sat_seq) | (apply sat_region) | (apply sat_cond_f; exact rfl; (assumption)) | (apply sat_skip))) | (apply pe_norm))
      refine op_storeVX (k := 1) (v := v) plc tab rfl rfl rfl rfl (fun _ => rfl) rfl rfl rfl hlt ?_
      have hfr := frz_row (i := σ.length + 1) (cap := c) (es := (xs.set i.toNat v).map plc) (sz := 2) (fun e he => by obtain ⟨x, _, rfl⟩ := List.mem_map.1 he; rfl)
      rw [List.length_map, List.length_set] at hfr
      refine ops_freezeX (k := 1) [(0, .sl .sh 2 ((xs.set i.toNat v).map plc))] [.cells (plc v).cells, .gone] rfl (flat_pl fun _ => rfl) ⟨hfr, trivial⟩ ⟨.inl rfl, .inl rfl, trivial⟩ ?_
      repeat' (first | (apply og_ops; (first | (apply og_move; (apply op_move (tt := tt); (focus ((conv => lhs; whnf); try exact rfl)); exact rfl)) | (apply og_assign; (apply op_assign (tt := tt); (focus ((conv => lhs; whnf); try exact rfl)); exact rfl)) | (apply ops_nil))) | (apply og_sat; (first | (apply sat_seq) | (apply sat_region) | (apply sat_ret))) | (apply pe_norm))
      (change fnPost _ _ _ _ _ _ _; apply fn_endN; (exact .inr rfl); (focus (repeat' (first | (apply rr_tmp; (focus ((conv => lhs; whnf); try exact rfl)); (exact Wk.same _)) | exact rr_nil))); exact rfl; (exact rfl); exact Nat.le_refl _; (focus (repeat' (first | exact trivial | refine ⟨?_, ?_⟩))); exact hso)
      exact ⟨rfl, rfl⟩

theorem clonePlR_sat (xs : List (Int × Int)) (hl : xs.length ≤ 1048576) (σ : Sto) : SatCall Try.prog 116 [.sl .sh 2 (xs.map plc)] σ fun x σ' =>
    (xs = [] ∧ x = .xsl 0 0 2 0 0 ∧ σ' = σ) ∨ ∃ c, xs.length ≤ c ∧ x = .xsl σ.length 0 2 xs.length c ∧ σ' = σ ++ [.cells (flat (xs.map plc) ++ room ((c - xs.length) * 2))] := by
  refine sat_fn tab Try.func116 rfl (Nat.le_of_ble_eq_true rfl) (by decide) fun hso => ?_
  repeat' (first | (apply og_ops; (first | (apply og_move; (apply op_move (tt := tt); (focus ((conv => lhs; whnf); try exact rfl)); exact rfl)) | (apply og_assign; (apply op_nilX (tt := tt); exact rfl; exact rfl)) | (apply ops_nil))) | (apply og_sat; (first | (apply sat_seq) | (apply sat_region))) | (apply pe_norm))
  refine op_eqNil (tt := tt) tab rfl rfl rfl ?_
  intro b hb
  cases b
  · repeat' (first | (apply og_ops; (first | (apply og_move; (apply op_move (tt := tt); (focus ((conv => lhs; whnf); try exact rfl)); exact rfl)) | (apply og_buildSlice; (apply op_build0X tab; exact rfl; exact rfl)) | (apply ops_nil))) | (apply og_sat; (first | (apply sat_seq) | (apply sat_region) | (apply sat_cond_f; exact rfl; (exact rfl)) | (apply sat_skip))) | (apply pe_norm))
    by_cases hx : xs = []
    · subst hx
      refine op_append0 tab rfl rfl rfl rfl rfl rfl (.sl _) rfl ?_
      repeat' (first | (apply og_ops; (first | (apply og_assign; (apply op_assign (tt := tt); (focus ((conv => lhs; whnf); try exact rfl)); exact rfl)) | (apply ops_nil))) | (apply og_sat; (apply sat_ret)) | (apply pe_norm))
      (change fnPost _ _ _ _ _ _ _; apply fn_endN; (exact .inr rfl); (focus (repeat' (first | (apply rr_tmp; (focus ((conv => lhs; whnf); try exact rfl)); (exact Wk.same _)) | exact rr_nil))); exact rfl; (exact (List.append_nil _).symm); exact Nat.le_refl _; (focus (repeat' (first | exact trivial | exact .inl rfl | refine ⟨?_, ?_⟩))); exact hso)
      exact .inl ⟨rfl, rfl, rfl⟩
    · refine op_appendN tab rfl rfl rfl rfl rfl (.none 0 0 0) rfl (.sl _) ?_ ?_ rfl ?_
      · simp; exact List.length_pos_iff.2 hx
      · exact fit_of rfl (by simp; omega)
      intro c hc
      rw [Nat.zero_add, List.length_map] at *
      repeat' (first | (apply og_ops; (first | (apply og_assign; (apply op_assign (tt := tt); (focus ((conv => lhs; whnf); try exact rfl)); exact rfl)) | (apply ops_nil))) | (apply og_sat; (apply sat_ret)) | (apply pe_norm))
      (change fnPost _ _ _ _ _ _ _; apply fn_endN (ex := []); (exact .inr rfl); (focus (repeat' (first | (apply rr_tmp; (focus ((conv => lhs; whnf); try exact rfl)); (exact Wk.same _)) | exact rr_nil))); exact rfl; exact (List.append_nil _).symm; (rw [List.length_append]; exact Nat.le_add_right _ _); (focus (repeat' (first | exact trivial | exact .inr (by simp) | refine ⟨?_, ?_⟩))))
      · exact stoOK_push hso (flat_lt (f := plc) (fun _ => rfl) _ _ _)
      · exact .inr ⟨c, hc, rfl, rfl⟩
  · have hx : xs = [] := by simpa using hb rfl
    subst hx
    repeat' (first | (apply og_ops; (first | (apply og_assign; (apply op_nilX (tt := tt); exact rfl; exact rfl)) | (apply ops_nil))) | (apply og_sat; (first | (apply sat_seq) | (apply sat_region) | (apply sat_cond_t; exact rfl; (exact rfl)) | (apply sat_ret))) | (apply pe_norm) | (apply pe_ret))
    (change fnPost _ _ _ _ _ _ _; apply fn_endN; (exact .inr rfl); (focus (repeat' (first | (apply rr_tmp; (focus ((conv => lhs; whnf); try exact rfl)); (exact Wk.same _)) | exact rr_nil))); exact rfl; (exact (List.append_nil _).symm); exact Nat.le_refl _; (focus (repeat' (first | exact trivial | exact .inl rfl | refine ⟨?_, ?_⟩))); exact hso)
    exact .inl ⟨rfl, rfl, rfl⟩
theorem clonePlO_sat (xs : List (Int × Int)) (hl : xs.length ≤ 1048576) (σ : Sto) : SatCall Try.prog 116 [.sl .sh 2 (xs.map plc)] σ fun x σ' => x = .sl .ow 2 (xs.map plc) ∧ σ' = σ := by
  refine sat_fn tab Try.func116 rfl (Nat.le_of_ble_eq_true rfl) (by decide) fun hso => ?_
  repeat' (first | (apply og_ops; (first | (apply og_move; (apply op_move (tt := tt); (focus ((conv => lhs; whnf); try exact rfl)); exact rfl)) | (apply og_assign; (apply op_nil (tt := tt); exact rfl; exact ltn rfl)) | (apply ops_nil))) | (apply og_sat; (first | (apply sat_seq) | (apply sat_region))) | (apply pe_norm))
  refine op_eqNil (tt := tt) tab rfl rfl rfl ?_
  intro b hb
  cases b
  · repeat' (first | (apply og_ops; (first | (apply og_move; (apply op_move (tt := tt); (focus ((conv => lhs; whnf); try exact rfl)); exact rfl)) | (apply og_assign; (apply op_take (.inl rfl); (focus ((conv => lhs; whnf); try exact rfl)); exact rfl; exact ltn rfl)) | (apply og_callb; (apply op_appendX tab; (focus ((conv => lhs; whnf); try exact rfl)); exact rfl; exact rfl; exact rfl; exact rfl; exact rfl; (focus ((conv => lhs; whnf); try exact rfl)); exact rfl; (simp only [List.length_map, List.length_append, List.length_cons, List.length_nil, List.length_take]; omega); (exact all_one_map _ (fun _ => rfl) _); exact rfl)) | (apply og_buildSlice; (apply op_buildSliceX .ow tab; exact rfl; (focus ((repeat (apply opvs_cons; (focus ((conv => lhs; whnf); try exact rfl)))); exact opvs_nil)); exact rfl; exact rfl; exact rfl; exact rfl; exact rfl; exact rfl)) | (apply ops_nil))) | (apply og_sat; (first | (apply sat_seq) | (apply sat_region) | (apply sat_cond_f; exact rfl; (exact rfl)) | (apply sat_skip) | (apply sat_ret))) | (apply pe_norm))
    (change fnPost _ _ _ _ _ _ _; apply fn_end1; (exact .inr rfl); exact rfl; (focus ((conv => lhs; whnf); try exact rfl)); exact Wk.same _; exact rfl; exact (List.append_nil _).symm; exact Nat.le_refl _; exact trivial; exact hso)
    exact ⟨rfl, rfl⟩
  · have hx : xs = [] := by simpa using hb rfl
    subst hx
    repeat' (first | (apply og_ops; (first | (apply og_assign; (apply op_nil (tt := tt); exact rfl; exact ltn rfl)) | (apply ops_nil))) | (apply og_sat; (first | (apply sat_seq) | (apply sat_region) | (apply sat_cond_t; exact rfl; (exact rfl)) | (apply sat_ret))) | (apply pe_norm) | (apply pe_ret))
    (change fnPost _ _ _ _ _ _ _; apply fn_end1; (exact .inr rfl); exact rfl; (focus ((conv => lhs; whnf); try exact rfl)); exact Wk.same _; exact rfl; exact (List.append_nil _).symm; exact Nat.le_refl _; exact trivial; exact hso)
    exact ⟨rfl, rfl⟩
theorem setPl_sat (xs : List (Int × Int)) (i : Int) (v : Int × Int) (hl : xs.length ≤ 1048576) (hi : i < 0 ∨ i.toNat < xs.length) (σ : Sto) : SatCall Try.prog 106 [.sl .sh 2 (xs.map plc), .int .i64 i, plc v] σ fun r σ' => r = .sl .sh 2 ((setL xs i v).map plc) ∧ σ' = σ := by
  refine sat_fn tab Try.func106 rfl (Nat.le_of_ble_eq_true rfl) (by decide) fun hso => sat_base ?_
  by_cases hn : i < 0
  · have c1 : decide (i < 0) = true := decide_eq_true hn
    have e : (setL xs i v).map plc = xs.map plc ++ [plc v] := by rw [setL, if_pos hn, List.map_append]; rfl
    rw [e]
    repeat' (first | (apply og_ops; (first | (apply og_move; (first | (apply op_take (d := 11) (.inr rfl); (focus ((conv => lhs; whnf); try exact rfl)); exact rfl; exact ltn rfl) | (apply op_move (tt := tt); (focus ((conv => lhs; whnf); try exact rfl)); exact rfl))) | (apply og_assign; (first | (apply op_nil (tt := tt); exact rfl; exact ltn rfl) | (apply op_take (.inl rfl); (focus ((conv => lhs; whnf); try exact rfl)); exact rfl; exact ltn rfl))) | (apply og_callv; (refine op_callP (tt := tt) cal116 (clonePlO_sat _ ?_ _) rfl rfl rfl rfl rfl ?_; (assumption))) | (apply og_bin; (apply op_bin true tab; (focus ((conv => lhs; whnf; arg 1; whnf; arg 2; whnf); try exact rfl)); (exact trivial); exact rfl)) | (apply og_load; (apply op_lk; (apply lk_loadX tab; exact rfl; exact rfl; exact rfl; (focus ((conv => lhs; whnf; arg 1; whnf; arg 2; whnf); try skip)); (exact Nat.le_of_ble_eq_true rfl)); (intro c h; cases h); exact rfl)) | (apply og_callb; (apply op_appendX tab; (focus ((conv => lhs; whnf); try exact rfl)); exact rfl; exact rfl; exact rfl; exact rfl; exact rfl; (focus ((conv => lhs; whnf); try exact rfl)); exact rfl; (simp only [List.length_map, List.length_append, List.length_cons, List.length_nil, List.length_take]; omega); (exact rfl); exact rfl)) | (apply og_buildSlice; (apply op_buildSliceX .ow tab; exact rfl; (focus ((repeat (apply opvs_cons; (focus ((conv => lhs; whnf); try exact rfl)))); exact opvs_nil)); exact rfl; exact rfl; exact rfl; exact rfl; exact rfl; exact rfl)) | (apply og_box; (apply op_boxX (tt := tt); (focus ((conv => lhs; whnf); try exact rfl)); exact rfl; (exact (rfl : _ = 0)); exact rfl)) | (apply ops_nil))) | (apply og_sat; (first | (apply sat_seq) | (apply sat_region) | (apply sat_cond_t; exact rfl; (assumption)) | (apply sat_ret))) | (apply pe_norm) | (apply pe_ret))
    (change fnPost _ _ _ _ _ _ _; apply fn_endN; (exact .inr rfl); (focus (repeat' (first | (apply rr_tmp; (focus ((conv => lhs; whnf); try exact rfl)); (exact Wk.sh)) | exact rr_nil))); exact rfl; (exact rfl); exact Nat.le_refl _; (focus (repeat' (first | exact trivial | refine ⟨?_, ?_⟩))); exact hso)
    exact ⟨rfl, rfl⟩
  · have c1 : decide (i < 0) = false := decide_eq_false hn
    have hlt : i.toNat < xs.length := by omega
    have h0 : 0 ≤ i := by omega
    have e : setL xs i v = xs.set i.toNat v := if_neg hn
    rw [e]
    have hC := clonePlR_sat xs hl (σ ++ [.cells (plc v).cells])
    simp only [List.length_append, List.length_cons, List.length_nil, List.append_assoc, List.cons_append, List.nil_append, Nat.zero_add, Nat.reduceAdd] at hC
    repeat' (first | (apply og_ops; (first | (apply og_move; (apply op_move (tt := tt); (focus ((conv => lhs; whnf); try exact rfl)); exact rfl)) | (apply og_assign; (apply op_nil (tt := tt); exact rfl; exact ltn rfl)) | (apply og_box; (apply op_boxX (tt := tt); (focus ((conv => lhs; whnf); try exact rfl)); exact rfl; (exact (rfl : _ = 0)); exact rfl)) | (apply ops_nil))) | (apply og_sat; (first | (apply sat_seq) | (apply sat_region))) | (apply pe_norm))
    refine op_callR (tt := tt) cal116 hC rfl rfl rfl rfl rfl ?_
    rintro r σ' (⟨he, rfl, rfl⟩ | ⟨c, hc, rfl, rfl⟩)
    · subst he; exact absurd hlt (Nat.not_lt_zero _)
    · repeat' (first | (apply og_ops; (first | (apply og_move; (apply op_move (tt := tt); (focus ((conv => lhs; whnf); try exact rfl)); exact rfl)) | (apply og_assign; (apply op_assign (tt := tt); (focus ((conv => lhs; whnf); try exact rfl)); exact rfl)) | (apply og_bin; (apply op_bin true tab; (focus ((conv => lhs; whnf; arg 1; whnf; arg 2; whnf); try exact rfl)); (exact trivial); exact rfl)) | (apply og_load; (apply op_lk; (apply lk_loadX tab; exact rfl; exact rfl; exact rfl; (focus ((conv => lhs; whnf; arg 1; whnf; arg 2; whnf); try skip)); (exact Nat.le_of_ble_eq_true rfl)); (intro c h; cases h); exact rfl)) | (apply og_indexAddr; (apply op_indexAddr tab (tI := 3); (focus ((conv => lhs; whnf; arg 1; whnf; arg 2; whnf); try exact rfl)); (refine ⟨rfl, ?_, ?_⟩ <;> omega); exact rfl)) | (apply ops_nil))) | (apply og_sat; (first | (apply sat_seq) | (apply sat_region) | (apply sat_cond_f; exact rfl; (assumption)) | (apply sat_skip))) | (apply pe_norm))
      refine op_storeVX (k := 1) (v := v) plc tab rfl rfl rfl rfl (fun _ => rfl) rfl rfl rfl hlt ?_
      have hfr := frz_row (i := σ.length + 1) (cap := c) (es := (xs.set i.toNat v).map plc) (sz := 2) (fun e he => by obtain ⟨x, _, rfl⟩ := List.mem_map.1 he; rfl)
      rw [List.length_map, List.length_set] at hfr
      refine ops_freezeX (k := 1) [(0, .sl .sh 2 ((xs.set i.toNat v).map plc))] [.cells (plc v).cells, .gone] rfl (flat_pl fun _ => rfl) ⟨hfr, trivial⟩ ⟨.inl rfl, .inl rfl, trivial⟩ ?_
      repeat' (first | (apply og_ops; (first | (apply og_move; (apply op_move (tt := tt); (focus ((conv => lhs; whnf); try exact rfl)); exact rfl)) | (apply og_assign; (apply op_assign (tt := tt); (focus ((conv => lhs; whnf); try exact rfl)); exact rfl)) | (apply ops_nil))) | (apply og_sat; (first | (apply sat_seq) | (apply sat_region) | (apply sat_ret))) | (apply pe_norm))
      (change fnPost _ _ _ _ _ _ _; apply fn_endN; (exact .inr rfl); (focus (repeat' (first | (apply rr_tmp; (focus ((conv => lhs; whnf); try exact rfl)); (exact Wk.same _)) | exact rr_nil))); exact rfl; (exact rfl); exact Nat.le_refl _; (focus (repeat' (first | exact trivial | refine ⟨?_, ?_⟩))); exact hso)
      exact ⟨rfl, rfl⟩


end Go.Proofs.Ytbjmafbbjhoddaa.Pv
