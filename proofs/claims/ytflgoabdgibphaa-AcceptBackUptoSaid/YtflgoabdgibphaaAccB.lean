/- Rows of votes: one put in between. -/
import Derived.Test.YtflgoabdgibphaaAccA
namespace Go.Proofs.Ytflgoabdgibphaa.Pv
open Go
set_option linter.unusedVariables false
set_option linter.unusedSimpArgs false
set_option maxRecDepth 100000


/-- slices.Insert of one element, onto a row of one's own. -/
theorem insertV_sat (xs : List (Vt)) (i : Nat) (v : Vt) (k c : Nat) (hi : i ≤ xs.length) (hl : xs.length ≤ 1048576) (hc : xs.length ≤ c) (σ : Sto) (hk : σ[k]? = some (.cells (flat (xs.map vt) ++ room ((c - xs.length) * 3)))) :
    SatCall Try.prog 27 [.xsl k 0 3 xs.length c, .int .i64 i, .sl .sh 3 ([v].map vt)] σ fun x σ' => x = .sl .sh 3 ((insI xs i v).map vt) ∧ σ' = σ.set k .gone := by
  refine sat_fn tab Try.func27 rfl (Nat.le_of_ble_eq_true rfl) (by decide) fun hso => ?_
  have hf : ∀ x, (vt x).cells.length = 3 := fun _ => rfl
  have hp : ∀ x, (vt x).pl = true := fun _ => rfl
  have hes : ∀ e ∈ (insI xs i v).map vt, e.cells.length = 3 := fun e he => by obtain ⟨x, _, rfl⟩ := List.mem_map.1 he; rfl
  have hil := insI_len xs i v
  have hkl : k < σ.length := (List.getElem?_eq_some_iff.1 hk).1
  have hv1 : ([v].map vt).length = 1 := rfl
  rcases Nat.lt_or_ge i xs.length with hlt | hge
  · have c1 : ((i : Int) == (xs.length : Int)) = false := by simp; omega
    by_cases hroom : xs.length + 1 ≤ c
    · have c2 : decide ((c : Int) < (xs.length : Int) + 1) = false := by simp; omega
      repeat' (first | (apply og_ops; (first | (apply og_move; (apply op_move (tt := tt); (focus ((conv => lhs; whnf); try exact rfl)); exact rfl)) | (apply og_assign; (first | (apply op_nil (tt := tt); exact rfl; exact ltn rfl) | (apply op_assign (tt := tt); (focus ((conv => lhs; whnf); try exact rfl)); exact rfl))) | (apply og_bin; (apply op_bin true tab; (focus ((conv => lhs; whnf; arg 1; whnf; arg 2; whnf); try exact rfl)); (first | exact trivial | (simp only [InR]; omega)); exact rfl)) | (apply og_callb; (first | (apply op_len tab; (focus ((conv => lhs; whnf; arg 1; whnf; arg 2; whnf); try exact rfl)); (exact trivial); exact rfl) | (apply op_lk; (apply lk_cap tab; exact rfl; (focus ((conv => lhs; whnf); try exact rfl))); (intro c h; cases h); exact rfl))) | (apply og_slice; (apply op_lk; (apply lk_sliceX tab; exact rfl; (focus ((conv => lhs; whnf); try exact rfl)); exact rfl; exact rfl; (focus ((conv => lhs; whnf); try exact rfl)); (focus ((conv => lhs; whnf); try exact rfl)); (focus ((conv => lhs; whnf); try exact rfl)); (omega)); (intro c h; cases h); exact rfl)) | (apply ops_nil))) | (apply og_sat; (first | (apply sat_seq) | (apply sat_region) | (apply sat_cond_f; exact rfl; (first | exact rfl | assumption)) | (apply sat_skip))) | (apply pe_norm))
      refine op_overlaps tab Try.func40 rfl rfl rfl rfl rfl rfl rfl (by show _ = PV.xsl k ((i + 1) * 3) 3 (xs.length - i) (c - (i + 1)); (conv => lhs; whnf); simp only [PV.xsl.injEq, PV.int.injEq, List.length_map, List.length_cons, List.length_nil, Int.toNat_natCast, true_and, and_true]; omega) hk rfl rfl ?_
      repeat' (first | (apply og_ops; (first | (apply og_un; (apply op_un (tt := tt) true; (focus ((conv => lhs; whnf; arg 1; whnf; arg 2; whnf); try exact rfl)); (exact trivial); exact rfl)) | (apply ops_nil))) | (apply og_sat; (first | (apply sat_seq) | (apply sat_cond_t; exact rfl; (exact rfl)) | (apply sat_drawC (k := 8); exact mixed; decide +kernel; decide +kernel))) | (apply pe_norm) | (apply og_dd; (first | (apply dd_lk; (first | (apply lg_move; (apply lk_move (tt := tt); (focus ((conv => lhs; whnf); try exact rfl)))) | (apply lg_bin; (apply lk_bin true tab; (focus ((conv => lhs; whnf; arg 1; whnf; arg 2; whnf); try exact rfl)); (simp only [InR]; omega))) | (apply lg_slice; (apply lk_sliceX tab; exact rfl; (focus ((conv => lhs; whnf); try exact rfl)); exact rfl; exact rfl; (focus ((conv => lhs; whnf); try exact rfl)); (focus ((conv => lhs; whnf); try exact rfl)); (focus ((conv => lhs; whnf); try exact rfl)); (omega)))); exact rfl; exact rfl) | (apply dd_nil))))
      refine op_copyR tab rfl rfl (by show _ = PV.xsl k ((i + 1) * 3) 3 (xs.length - i) (c - (i + 1)); (conv => lhs; whnf); simp only [PV.xsl.injEq, PV.int.injEq, List.length_map, List.length_cons, List.length_nil, Int.toNat_natCast, true_and, and_true]; omega) hk (by show _ = PV.xsl k (i * 3) 3 (xs.length + 1 - i) (c - i); (conv => lhs; whnf); simp only [PV.xsl.injEq, PV.int.injEq, List.length_map, List.length_cons, List.length_nil, Int.toNat_natCast, true_and, and_true]; omega) (srcQ_row hf hp hk (i := i) (q := xs.length - i) (by omega) (by omega)) (by omega) (by rw [List.length_append, fl_len hf, room_len]; omega) (fl_all_one (fun _ => rfl) _) rfl ?_
      have e1 : (flat (((xs.drop i).take (xs.length - i)).map vt)).take (min (xs.length + 1 - i) (xs.length - i) * 3) = flat ((xs.drop i).map vt) := by
        rw [Nat.min_eq_right (by omega), List.take_of_length_le (by rw [fl_len hf, List.length_take]; exact Nat.mul_le_mul_right _ (Nat.min_le_left _ _)), List.take_of_length_le (by rw [List.length_drop]; exact Nat.le_refl _)]
      rw [e1]
      repeat' (first | (apply og_ops; (first | (apply og_move; (apply op_move (tt := tt); (focus ((conv => lhs; whnf); try exact rfl)); exact rfl)) | (apply og_slice; (apply op_lk; (apply lk_sliceX tab; exact rfl; (focus ((conv => lhs; whnf); try exact rfl)); exact rfl; exact rfl; (focus ((conv => lhs; whnf); try exact rfl)); (focus ((conv => lhs; whnf); try exact rfl)); (focus ((conv => lhs; whnf); try exact rfl)); (omega)); (intro c h; cases h); exact rfl)) | (apply ops_nil))) | (apply og_sat; (first | (apply sat_seq) | (apply sat_region))) | (apply pe_norm))
      refine op_copyR tab rfl rfl (by show _ = PV.xsl k (i * 3) 3 (xs.length + 1 - i) (c - i); (conv => lhs; whnf); simp only [PV.xsl.injEq, PV.int.injEq, List.length_map, List.length_cons, List.length_nil, Int.toNat_natCast, true_and, and_true]; omega) (get_set hkl) rfl (.sl _) (Nat.min_le_left _ _) (by rw [(putAt_get _ _ _ _).1, List.length_append, fl_len hf, room_len]; omega; rw [List.length_append, fl_len hf, fl_len hf, room_len, List.length_drop]; omega) rfl rfl ?_
      have e2 : (flat ([v].map vt)).take (min ([v].map vt).length (xs.length + 1 - i) * 3) = flat ([v].map vt) := List.take_of_length_le (by rw [fl_vlen hf, hv1, Nat.min_eq_left (by omega)]; exact Nat.le_refl _)
      rw [e2, List.set_set, put_in hf hlt hroom]
      have hfr := frz_row (i := k) (cap := c) hes
      rw [List.length_map, hil] at hfr
      refine ops_freeze [(0, .sl .sh 3 ((insI xs i v).map vt))] _ (get_set hkl) (flat_pl hp) ⟨Eq.subst (motive := fun p => Frz k _ _ p) (Eq.symm (by (conv => lhs; whnf); simp only [PV.xsl.injEq, PV.int.injEq, List.length_map, List.length_cons, List.length_nil, Int.toNat_natCast, true_and, and_true]; omega)) hfr, trivial⟩ (FrzS.refl _) ?_
      rw [List.set_set]
      repeat' (first | (apply og_ops; (first | (apply og_move; (apply op_move (tt := tt); (focus ((conv => lhs; whnf); try exact rfl)); exact rfl)) | (apply og_assign; (apply op_assign (tt := tt); (focus ((conv => lhs; whnf); try exact rfl)); exact rfl)) | (apply ops_nil))) | (apply og_sat; (first | (apply sat_seq) | (apply sat_region) | (apply sat_ret))) | (apply pe_norm) | (apply pe_ret))
      (change fnPost _ _ _ _ _ _ _; apply fn_endN; (exact .inr rfl); (focus (repeat' (first | (apply rr_tmp; (focus ((conv => lhs; whnf); try exact rfl)); (exact Wk.same _)) | exact rr_nil))); exact rfl; (exact (List.append_nil _).symm); (rw [List.length_set]; exact Nat.le_refl _); (focus (repeat' (first | exact trivial | refine ⟨?_, ?_⟩))); exact stoOK_gone hso _)
      · exact ⟨rfl, rfl⟩
    · have c2 : decide ((c : Int) < (xs.length : Int) + 1) = true := by simp; omega
      repeat' (first | (apply og_ops; (first | (apply og_move; (apply op_move (tt := tt); (focus ((conv => lhs; whnf); try exact rfl)); exact rfl)) | (apply og_assign; (first | (apply op_nil (tt := tt); exact rfl; exact ltn rfl) | (apply op_assign (tt := tt); (focus ((conv => lhs; whnf); try exact rfl)); exact rfl))) | (apply og_bin; (apply op_bin true tab; (focus ((conv => lhs; whnf; arg 1; whnf; arg 2; whnf); try exact rfl)); (first | exact trivial | (simp only [InR]; omega)); exact rfl)) | (apply og_callb; (first | (apply op_len tab; (focus ((conv => lhs; whnf; arg 1; whnf; arg 2; whnf); try exact rfl)); (exact trivial); exact rfl) | (apply op_lk; (apply lk_cap tab; exact rfl; (focus ((conv => lhs; whnf); try exact rfl))); (intro c h; cases h); exact rfl))) | (apply og_slice; (apply op_lk; (apply lk_sliceX tab; exact rfl; (focus ((conv => lhs; whnf); try exact rfl)); exact rfl; exact rfl; (focus ((conv => lhs; whnf); try exact rfl)); (focus ((conv => lhs; whnf); try exact rfl)); (focus ((conv => lhs; whnf); try exact rfl)); (omega)); (intro c h; cases h); exact rfl)) | (apply ops_nil))) | (apply og_sat; (first | (apply sat_seq) | (apply sat_region) | (apply sat_cond_t; exact rfl; (assumption)) | (apply sat_cond_f; exact rfl; (first | exact rfl | assumption)) | (apply sat_skip))) | (apply pe_norm))
      refine op_appendZ (z := ((xs.length + 1 - i : Nat) : Int)) tab rfl rfl rfl rfl (by show _ = PV.xsl k (0 * 3) 3 i c; (conv => lhs; whnf); simp only [PV.xsl.injEq, PV.int.injEq, List.length_map, List.length_cons, List.length_nil, Int.toNat_natCast, true_and, and_true]; omega) (srcQ_row hf hp hk (i := 0) (q := i) (Nat.le_refl _) (by omega)) (by show _ = PV.int .i64 ((xs.length + 1 - i : Nat) : Int); (conv => lhs; whnf); simp only [PV.xsl.injEq, PV.int.injEq, List.length_map, List.length_cons, List.length_nil, Int.toNat_natCast, true_and, and_true]; omega) (by omega) (by rw [Int.toNat_natCast]; omega) (fit_of rfl (by rw [Int.toNat_natCast]; omega)) rfl ?_
      intro c' hc'
      rw [Int.toNat_natCast, show i + (xs.length + 1 - i) = xs.length + 1 by omega] at hc'
      rw [Int.toNat_natCast, show i + (xs.length + 1 - i) = xs.length + 1 by omega, List.drop_zero]
      have hti : (xs.take i).length = i := by rw [List.length_take]; omega
      have e1 : (flat (((xs.drop i).take (xs.length - i)).map vt)).take (min (xs.length - i) (xs.length - i) * 3) = flat ((xs.drop i).map vt) := by
        rw [Nat.min_self, List.take_of_length_le (by rw [fl_len hf, List.length_take]; exact Nat.mul_le_mul_right _ (Nat.min_le_left _ _)), List.take_of_length_le (by rw [List.length_drop]; exact Nat.le_refl _)]
      have e2 : (flat ([v].map vt)).take (min ([v].map vt).length (xs.length + 1 - i) * 3) = flat ([v].map vt) := List.take_of_length_le (by rw [fl_vlen hf, hv1, Nat.min_eq_left (by omega)]; exact Nat.le_refl _)
      repeat' (first | (apply og_ops; (first | (apply og_move; (apply op_move (tt := tt); (focus ((conv => lhs; whnf); try exact rfl)); exact rfl)) | (apply og_assign; (apply op_assign (tt := tt); (focus ((conv => lhs; whnf); try exact rfl)); exact rfl)) | (apply og_slice; (apply op_lk; (apply lk_sliceX tab; exact rfl; (focus ((conv => lhs; whnf); try exact rfl)); exact rfl; exact rfl; (focus ((conv => lhs; whnf); try exact rfl)); (focus ((conv => lhs; whnf); try exact rfl)); (focus ((conv => lhs; whnf); try exact rfl)); (omega)); (intro c h; cases h); exact rfl)) | (apply ops_nil))) | (apply og_sat; (first | (apply sat_seq) | (apply sat_region))) | (apply pe_norm))
      refine op_copyR tab rfl rfl (by show _ = PV.xsl σ.length (i * 3) 3 (xs.length + 1 - i) (c' - i); (conv => lhs; whnf); simp only [PV.xsl.injEq, PV.int.injEq, List.length_map, List.length_cons, List.length_nil, Int.toNat_natCast, true_and, and_true]; omega) get_last rfl (.sl _) (Nat.min_le_left _ _) (by rw [List.length_append, fl_len hf, List.length_replicate, hti]; omega) rfl rfl ?_
      rw [e2, set_last]
      repeat' (first | (apply og_ops; (apply ops_nil)) | (apply og_sat; (first | (apply sat_seq) | (apply sat_drawC (k := 8); exact mixed; decide +kernel; decide +kernel))) | (apply pe_norm) | (apply og_dd; (first | (apply dd_lk; (first | (apply lg_move; (apply lk_move (tt := tt); (focus ((conv => lhs; whnf); try exact rfl)))) | (apply lg_bin; (apply lk_bin true tab; (focus ((conv => lhs; whnf; arg 1; whnf; arg 2; whnf); try exact rfl)); (simp only [InR]; omega))) | (apply lg_slice; (apply lk_sliceX tab; exact rfl; (focus ((conv => lhs; whnf); try exact rfl)); exact rfl; exact rfl; (focus ((conv => lhs; whnf); try exact rfl)); (focus ((conv => lhs; whnf); try exact rfl)); (focus ((conv => lhs; whnf); try exact rfl)); (omega)))); exact rfl; exact rfl) | (apply dd_nil))))
      refine op_copyR tab rfl rfl (by show _ = PV.xsl σ.length ((i + 1) * 3) 3 (xs.length - i) (c' - (i + 1)); (conv => lhs; whnf); simp only [PV.xsl.injEq, PV.int.injEq, List.length_map, List.length_cons, List.length_nil, Int.toNat_natCast, true_and, and_true]; omega) get_last (by show _ = PV.xsl k (i * 3) 3 (xs.length - i) (c - i); (conv => lhs; whnf); simp only [PV.xsl.injEq, PV.int.injEq, List.length_map, List.length_cons, List.length_nil, Int.toNat_natCast, true_and, and_true]; omega) (srcQ_row hf hp (get_old hk) (i := i) (q := xs.length - i) (Nat.le_refl _) (by omega)) (Nat.min_le_left _ _) (by rw [(putAt_get _ _ _ _).1, List.length_append, fl_len hf, List.length_replicate, hti]; omega; rw [List.length_append, fl_vlen hf, fl_len hf, List.length_replicate, hti]; omega) (fl_all_one (fun _ => rfl) _) rfl ?_
      rw [e1, set_last, put_new hf hlt hc']
      have hfr := frz_row (i := σ.length) (cap := c') hes
      rw [List.length_map, hil] at hfr
      refine ops_gone k (ops_freeze [(9, .sl .sh 3 ((insI xs i v).map vt))] (σ.set k .gone ++ [.gone]) (i := σ.length) (by rw [set_old hkl]; rw [show σ.length = (σ.set k .gone).length by simp]; exact get_last) (flat_pl hp) ⟨hfr, trivial⟩ (by rw [set_old hkl]; rw [show σ.length = (σ.set k .gone).length by simp, set_last]; exact FrzS.refl _) ?_)
      repeat' (first | (apply og_ops; (first | (apply og_move; (apply op_move (tt := tt); (focus ((conv => lhs; whnf); try exact rfl)); exact rfl)) | (apply og_assign; (apply op_assign (tt := tt); (focus ((conv => lhs; whnf); try exact rfl)); exact rfl)) | (apply ops_nil))) | (apply og_sat; (first | (apply sat_seq) | (apply sat_region) | (apply sat_ret))) | (apply pe_norm) | (apply pe_ret))
      (change fnPost _ _ _ _ _ _ _; apply fn_endN; (exact .inr rfl); (focus (repeat' (first | (apply rr_tmp; (focus ((conv => lhs; whnf); try exact rfl)); (exact Wk.same _)) | exact rr_nil))); exact rfl; (exact rfl); (rw [List.length_set]; exact Nat.le_refl _); (focus (repeat' (first | exact trivial | refine ⟨?_, ?_⟩))); exact stoOK_gone hso _)
      · exact ⟨rfl, rfl⟩
  · have hin : i = xs.length := by omega
    subst hin
    have c1 : ((xs.length : Int) == (xs.length : Int)) = true := by simp
    by_cases hroom : xs.length + 1 ≤ c
    · repeat' (first | (apply og_ops; (first | (apply og_move; (apply op_move (tt := tt); (focus ((conv => lhs; whnf); try exact rfl)); exact rfl)) | (apply og_assign; (first | (apply op_nil (tt := tt); exact rfl; exact ltn rfl) | (apply op_assign (tt := tt); (focus ((conv => lhs; whnf); try exact rfl)); exact rfl))) | (apply og_bin; (apply op_bin true tab; (focus ((conv => lhs; whnf; arg 1; whnf; arg 2; whnf); try exact rfl)); (exact trivial); exact rfl)) | (apply og_callb; (apply op_len tab; (focus ((conv => lhs; whnf; arg 1; whnf; arg 2; whnf); try exact rfl)); (exact trivial); exact rfl)) | (apply og_slice; (apply op_lk; (apply lk_sliceX tab; exact rfl; (focus ((conv => lhs; whnf); try exact rfl)); exact rfl; exact rfl; (focus ((conv => lhs; whnf); try exact rfl)); (focus ((conv => lhs; whnf); try exact rfl)); (focus ((conv => lhs; whnf); try exact rfl)); (omega)); (intro c h; cases h); exact rfl)) | (apply ops_nil))) | (apply og_sat; (first | (apply sat_seq) | (apply sat_region) | (apply sat_cond_t; exact rfl; (assumption)) | (apply sat_cond_f; exact rfl; (exact rfl)) | (apply sat_skip))) | (apply pe_norm))
      refine op_appendR tab rfl rfl rfl rfl rfl hk rfl (.sl _) (by rw [hv1]; exact hroom) (by rw [hv1, List.length_append, fl_len hf, room_len]; omega) rfl (fit_of rfl (by rw [hv1]; omega)) rfl ?_
      rw [hv1, put_end hf hroom]
      have hfr := frz_row (i := k) (cap := c) hes
      rw [List.length_map, hil] at hfr
      refine ops_freeze [(25, .sl .sh 3 ((insI xs xs.length v).map vt))] _ (get_set hkl) (flat_pl hp) ⟨hfr, trivial⟩ (FrzS.refl _) ?_
      rw [List.set_set]
      repeat' (first | (apply og_ops; (first | (apply og_assign; (apply op_assign (tt := tt); (focus ((conv => lhs; whnf); try exact rfl)); exact rfl)) | (apply ops_nil))) | (apply og_sat; (apply sat_ret)) | (apply pe_norm) | (apply pe_ret))
      (change fnPost _ _ _ _ _ _ _; apply fn_endN (ex := []); (exact .inr rfl); (focus (repeat' (first | (apply rr_tmp; (focus ((conv => lhs; whnf); try exact rfl)); (exact Wk.same _)) | exact rr_nil))); exact rfl; exact (List.append_nil _).symm; (rw [List.length_set]; exact Nat.le_refl _); (focus (repeat' (first | exact trivial | refine ⟨?_, ?_⟩))))
      · exact stoOK_gone hso k
      · exact ⟨rfl, rfl⟩
    · repeat' (first | (apply og_ops; (first | (apply og_move; (apply op_move (tt := tt); (focus ((conv => lhs; whnf); try exact rfl)); exact rfl)) | (apply og_assign; (first | (apply op_nil (tt := tt); exact rfl; exact ltn rfl) | (apply op_assign (tt := tt); (focus ((conv => lhs; whnf); try exact rfl)); exact rfl))) | (apply og_bin; (apply op_bin true tab; (focus ((conv => lhs; whnf; arg 1; whnf; arg 2; whnf); try exact rfl)); (exact trivial); exact rfl)) | (apply og_callb; (apply op_len tab; (focus ((conv => lhs; whnf; arg 1; whnf; arg 2; whnf); try exact rfl)); (exact trivial); exact rfl)) | (apply og_slice; (apply op_lk; (apply lk_sliceX tab; exact rfl; (focus ((conv => lhs; whnf); try exact rfl)); exact rfl; exact rfl; (focus ((conv => lhs; whnf); try exact rfl)); (focus ((conv => lhs; whnf); try exact rfl)); (focus ((conv => lhs; whnf); try exact rfl)); (omega)); (intro c h; cases h); exact rfl)) | (apply ops_nil))) | (apply og_sat; (first | (apply sat_seq) | (apply sat_region) | (apply sat_cond_t; exact rfl; (assumption)) | (apply sat_cond_f; exact rfl; (exact rfl)) | (apply sat_skip))) | (apply pe_norm))
      refine op_appendN tab rfl rfl rfl rfl rfl (srcQ_row hf hp hk (i := 0) (q := xs.length) (Nat.le_refl _) (by omega)) rfl (.sl _) (by rw [hv1]; omega) (fit_of rfl (by rw [hv1]; omega)) rfl ?_
      intro c' hc'
      rw [hv1] at hc' ⊢
      have hfr := frz_row (i := σ.length) (cap := c') hes
      rw [List.length_map, hil] at hfr
      have e1 : flat (((xs.drop 0).take xs.length).map vt) ++ flat ([v].map vt) = flat ((insI xs xs.length v).map vt) := by
        rw [fl_ins, List.drop_length, List.map_nil, List.drop_zero, List.take_length]; simp [flat]
      rw [e1]
      have hgl : σ.length = (σ.set k .gone).length := by simp
      refine ops_gone k (ops_freeze [(25, .sl .sh 3 ((insI xs xs.length v).map vt))] (σ.set k .gone ++ [.gone]) (i := σ.length) (by rw [set_old hkl]; rw [show σ.length = (σ.set k .gone).length by simp]; exact get_last) (flat_pl hp) ⟨hfr, trivial⟩ (by rw [set_old hkl]; rw [show σ.length = (σ.set k .gone).length by simp, set_last]; exact FrzS.refl _) ?_)
      repeat' (first | (apply og_ops; (first | (apply og_assign; (apply op_assign (tt := tt); (focus ((conv => lhs; whnf); try exact rfl)); exact rfl)) | (apply ops_nil))) | (apply og_sat; (apply sat_ret)) | (apply pe_norm) | (apply pe_ret))
      (change fnPost _ _ _ _ _ _ _; apply fn_endN; (exact .inr rfl); (focus (repeat' (first | (apply rr_tmp; (focus ((conv => lhs; whnf); try exact rfl)); (exact Wk.same _)) | exact rr_nil))); exact rfl; (exact rfl); (rw [List.length_set]; exact Nat.le_refl _); (focus (repeat' (first | exact trivial | refine ⟨?_, ?_⟩))); exact stoOK_gone hso _)
      · exact ⟨rfl, rfl⟩



/-- .. of a row of one's own. -/
theorem indexFuncVX_sat {g : FuncId} {caps : List PV} (p : Vt → Bool) (xs : List (Vt)) (k c : Nat) (rs : List PV) (hl : xs.length ≤ 9223372036854775807) (σ : Sto) (hk : σ[k]? = some (.cells (flat (xs.map vt) ++ rs))) (hg : Callable Try.prog g) (hf : ∀ x ∈ xs, SatCall Try.prog g (vt x :: caps) σ fun r σ' => r = .bool (p x) ∧ σ' = σ) (htup : (caps.all fun p => !p.isTup) = true) :
    SatCall Try.prog 24 [.xsl k 0 3 xs.length c, .fn (.func g) [] caps] σ fun x σ' => x = .int .i64 (idxI p xs) ∧ σ' = σ := by
  refine sat_fn tab Try.func24 rfl (Nat.le_of_ble_eq_true rfl) (by decide) fun hso => ?_
  repeat' (first | (apply og_ops; (first | (apply og_move; (apply op_move (tt := tt); (focus ((conv => lhs; whnf); try exact rfl)); exact rfl)) | (apply og_assign; (apply op_assign (tt := tt); (focus ((conv => lhs; whnf); try exact rfl)); exact rfl)) | (apply og_callb; (apply op_len tab; (focus ((conv => lhs; whnf; arg 1; whnf; arg 2; whnf); try exact rfl)); (exact trivial); exact rfl)) | (apply ops_nil))) | (apply og_sat; (first | (apply sat_seq) | (apply sat_region) | (apply sat_block))) | (apply pe_norm))
  refine sat_loopW (fun i : Nat => [(0, .xsl k 0 3 xs.length c), (1, .fn (.func g) [] caps), (7, .int .i64 xs.length), (8, .int .i64 i)]) (fun _ => σ) (fun i => i ≤ xs.length ∧ ∀ j, j < i → p (xs.getD j default) = false) (fun i => xs.length - i) 0 ⟨Nat.zero_le _, fun j hj => by omega⟩ ?_ rfl ?_
  · (repeat' (first | exact trivial | exact Wk.same _ | refine ⟨?_, ?_⟩))
  rintro i ⟨hi, hno⟩
  rcases Nat.lt_or_ge i xs.length with hlt | hge
  · have c1 : decide ((i : Int) < (xs.length : Int)) = true := by simp; omega
    repeat' (first | (apply og_ops; (first | (apply og_move; (apply op_move (tt := tt); (focus ((conv => lhs; whnf); try exact rfl)); exact rfl)) | (apply og_assign; (apply op_assign (tt := tt); (focus ((conv => lhs; whnf); try exact rfl)); exact rfl)) | (apply og_bin; (apply op_bin true tab; (focus ((conv => lhs; whnf; arg 1; whnf; arg 2; whnf); try exact rfl)); (exact trivial); exact rfl)) | (apply og_load; (apply op_lk; (apply lk_loadV vt tab; (focus ((conv => lhs; whnf); try exact rfl)); exact rfl; exact rfl; exact rfl; (assumption); exact (fun _ => rfl); exact (fun _ => rfl); exact (fun _ => rfl); (omega)); (intro c h; cases h); exact rfl)) | (apply og_indexAddr; (apply op_indexAddr tab (tI := 3); (focus ((conv => lhs; whnf; arg 1; whnf; arg 2; whnf); try exact rfl)); (refine ⟨rfl, ?_, ?_⟩ <;> omega); exact rfl)) | (apply ops_nil))) | (apply og_sat; (first | (apply sat_seq) | (apply sat_region) | (apply sat_cond_t; exact rfl; (assumption)) | (apply sat_skip) | (apply sat_block))) | (apply pe_norm))
    refine op_callF (tt := tt) hg (hf _ (getD_memL hlt)) rfl rfl rfl (by simpa [PV.isTup, vt] using htup) rfl ?_
    repeat' (first | (apply og_ops; (first | (apply og_move; (apply op_move (tt := tt); (focus ((conv => lhs; whnf); try exact rfl)); exact rfl)) | (apply og_assign; (apply op_assign (tt := tt); (focus ((conv => lhs; whnf); try exact rfl)); exact rfl)) | (apply og_bin; (apply op_bin true tab; (focus ((conv => lhs; whnf; arg 1; whnf; arg 2; whnf); try exact rfl)); (simp only [InR]; omega); exact rfl)) | (apply ops_nil))) | (apply og_sat; (first | (apply sat_seq) | (apply sat_region) | (apply sat_cond; exact (rfl : _ = PV.bool _); all_goals intro hb) | (apply sat_skip) | (apply sat_ret))) | (apply pe_norm) | (apply pe_ret) | (apply pb_norm) | (apply pb_ret))
    · (change fnPost _ _ _ _ _ _ _; apply fn_endN; (exact .inr rfl); (focus (repeat' (first | (apply rr_tmp; (focus ((conv => lhs; whnf); try exact rfl)); (exact Wk.same _)) | exact rr_nil))); exact rfl; (exact (List.append_nil _).symm); exact Nat.le_refl _; (focus (repeat' (first | exact trivial | refine ⟨?_, ?_⟩))); exact hso)
      exact ⟨by rw [idx_hit hlt hno hb]; rfl, rfl⟩
    · refine ⟨i + 1, ⟨by omega, fun j hj => ?_⟩, by omega, ?_, rfl⟩
      · by_cases e : j = i
        · subst e; exact hb
        · exact hno j (by omega)
      · (repeat' (first | exact trivial | exact Wk.same _ | refine ⟨?_, ?_⟩))
  · have c1 : decide ((i : Int) < (xs.length : Int)) = false := by simp; omega
    repeat' (first | (apply og_ops; (first | (apply og_assign; (apply op_assign (tt := tt); (focus ((conv => lhs; whnf); try exact rfl)); exact rfl)) | (apply og_bin; (apply op_bin true tab; (focus ((conv => lhs; whnf; arg 1; whnf; arg 2; whnf); try exact rfl)); (exact trivial); exact rfl)) | (apply ops_nil))) | (apply og_sat; (first | (apply sat_seq) | (apply sat_region) | (apply sat_cond_f; exact rfl; (assumption)) | (apply sat_ret) | (apply sat_exit))) | (apply pe_norm) | (apply pe_exit) | (apply pb_same))
    (change fnPost _ _ _ _ _ _ _; apply fn_endN; (exact .inr rfl); (focus (repeat' (first | (apply rr_tmp; (focus ((conv => lhs; whnf); try exact rfl)); (exact Wk.same _)) | exact rr_nil))); exact rfl; (exact (List.append_nil _).symm); exact Nat.le_refl _; (focus (repeat' (first | exact trivial | refine ⟨?_, ?_⟩))); exact hso)
    exact ⟨by rw [idx_none fun j hj => hno j (by omega)]; rfl, rfl⟩


/-- What is put into an empty row. -/
theorem insertV0_sat (v : Vt) (σ : Sto) : SatCall Try.prog 27 [.xsl 0 0 3 0 0, .int .i64 0, .sl .sh 3 ([v].map vt)] σ fun x σ' => x = .sl .sh 3 ([v].map vt) ∧ σ' = σ := by
  refine sat_fn tab Try.func27 rfl (Nat.le_of_ble_eq_true rfl) (by decide) fun hso => ?_
  have hf : ∀ x, (vt x).cells.length = 3 := fun _ => rfl
  have hp : ∀ x, (vt x).pl = true := fun _ => rfl
  have hes : ∀ e ∈ [v].map vt, e.cells.length = 3 := fun e he => by obtain ⟨x, _, rfl⟩ := List.mem_map.1 he; rfl
  have hv1 : ([v].map vt).length = 1 := rfl
  repeat' (first | (apply og_ops; (first | (apply og_move; (apply op_move (tt := tt); (focus ((conv => lhs; whnf); try exact rfl)); exact rfl)) | (apply og_assign; (first | (apply op_nil (tt := tt); exact rfl; exact ltn rfl) | (apply op_assign (tt := tt); (focus ((conv => lhs; whnf); try exact rfl)); exact rfl))) | (apply og_bin; (apply op_bin true tab; (focus ((conv => lhs; whnf; arg 1; whnf; arg 2; whnf); try exact rfl)); (exact trivial); exact rfl)) | (apply og_callb; (apply op_len tab; (focus ((conv => lhs; whnf; arg 1; whnf; arg 2; whnf); try exact rfl)); (exact trivial); exact rfl)) | (apply og_slice; (apply op_lk; (apply lk_sliceX tab; exact rfl; (focus ((conv => lhs; whnf); try exact rfl)); exact rfl; exact rfl; (focus ((conv => lhs; whnf); try exact rfl)); (focus ((conv => lhs; whnf); try exact rfl)); (focus ((conv => lhs; whnf); try exact rfl)); (omega)); (intro c h; cases h); exact rfl)) | (apply ops_nil))) | (apply og_sat; (first | (apply sat_seq) | (apply sat_region) | (apply sat_cond_t; exact rfl; (exact rfl)) | (apply sat_cond_f; exact rfl; (exact rfl)) | (apply sat_skip))) | (apply pe_norm))
  refine op_appendN tab rfl rfl rfl rfl rfl (.none 0 0 0) rfl (.sl _) (by rw [hv1]; omega) (fit_of rfl (by rw [hv1]; omega)) rfl ?_
  intro c' hc'
  have hfr := frz_row (i := σ.length) (cap := c') hes
  refine ops_freeze [(25, .sl .sh 3 ([v].map vt))] (σ ++ [.gone]) (i := σ.length) get_last (flat_pl hp) ⟨hfr, trivial⟩ (by rw [set_last]; exact FrzS.refl _) ?_
  repeat' (first | (apply og_ops; (first | (apply og_assign; (apply op_assign (tt := tt); (focus ((conv => lhs; whnf); try exact rfl)); exact rfl)) | (apply ops_nil))) | (apply og_sat; (apply sat_ret)) | (apply pe_norm) | (apply pe_ret))
  (change fnPost _ _ _ _ _ _ _; apply fn_endN; (exact .inr rfl); (focus (repeat' (first | (apply rr_tmp; (focus ((conv => lhs; whnf); try exact rfl)); (exact Wk.same _)) | exact rr_nil))); exact rfl; (exact rfl); exact Nat.le_refl _; (focus (repeat' (first | exact trivial | refine ⟨?_, ?_⟩))); exact hso)
  exact ⟨rfl, rfl⟩

end Go.Proofs.Ytflgoabdgibphaa.Pv
