/- The plain Split. -/
import Derived.Test.YtecleclpakiocaaBlkB
namespace Go.Proofs.Ytecleclpakiocaa.Pv
open Go
set_option linter.unusedVariables false
set_option linter.unusedSimpArgs false
set_option maxRecDepth 100000

theorem ceil_lt {L m c j : Nat} (hm : 0 < m) (hc : c = (L + m - 1) / m) : j * m < L ↔ j < c := by
  rw [hc, Nat.lt_iff_add_one_le, Nat.lt_iff_add_one_le, Nat.le_div_iff_mul_le hm, Nat.add_mul, Nat.one_mul]
  omega

theorem padI_get {zs : List Int} {N j : Nat} (h : j < zs.length) : (padI zs N).getD j 0 = zs.getD j 0 := by
  simp [padI, List.getD, List.getElem?_append_left h]
theorem padI_get0 {zs : List Int} {N j : Nat} (h : zs.length ≤ j) : (padI zs N).getD j 0 = 0 := by
  simp only [padI, List.getD, List.getElem?_append_right h]
  cases hh : (List.replicate (N - zs.length) (0 : Int))[j - zs.length]? with
  | none => rfl
  | some x => have := List.mem_of_getElem? hh; rw [List.mem_replicate] at this; rw [this.2]; rfl

theorem take_snoc0 {l : List Int} {a t : Nat} (h : a + t < l.length) : (l.drop a).take (t + 1) = (l.drop a).take t ++ [l.getD (a + t) 0] := by
  rw [List.take_succ_eq_append_getElem (by simp; omega)]
  simp [List.getD, h]

theorem refSplit_sat (s : ByteArray) (k : Int) (hs : s.size ≤ 2000000) (σ : Sto) : SatCall Try.prog 12 [.str s, .int .i64 k] σ fun x σ' => x = .tup [.sl .sh 1 ((splitP s k).1.map PV.str), .int .i64 (splitP s k).2] ∧ σ' = σ := by
  refine sat_fn tab Try.func12 rfl (Nat.le_of_ble_eq_true rfl) (by decide) fun hso => ?_
  by_cases h0 : k < 1
  · have c0 : decide (k < 1) = true := decide_eq_true h0
    repeat' (first | (apply og_ops; (first | (apply og_guard; (apply ops_guard_f'; exact (rfl : _ = some _); exact (rfl : _ = PV.bool _); (assumption); exact ltn rfl)) | (apply og_move; (apply op_move (tt := tt); (focus ((conv => lhs; whnf); try exact rfl)); exact rfl)) | (apply og_assign; (first | (apply op_nil (tt := tt); exact rfl; exact ltn rfl) | (apply op_assign (tt := tt); (focus ((conv => lhs; whnf); try exact rfl)); exact rfl))) | (apply og_bin; (apply op_bin true tab; (focus ((conv => lhs; whnf; arg 1; whnf; arg 2; whnf); try exact rfl)); (exact trivial); exact rfl)) | (apply og_pick; (apply op_pick (tt := tt); exact (rfl : _ = PV.bool _); (refine .inl ⟨by assumption, ?_⟩); (focus ((conv => lhs; whnf); try exact rfl)); exact ltn rfl)) | (apply ops_nil))) | (apply og_sat; (first | (apply sat_seq) | (apply sat_region) | (apply sat_cond_t; exact rfl; (exact rfl)) | (apply sat_ret))) | (apply pe_norm) | (apply pe_ret))
    (change fnPost _ _ _ _ _ _ _; apply fn_endN; (exact .inr rfl); (focus (repeat' (first | (apply rr_tmp; (focus ((conv => lhs; whnf); try exact rfl)); (first | exact Wk.sh | exact Wk.same _)) | exact rr_nil))); exact rfl; (exact (List.append_nil _).symm); exact Nat.le_refl _; (focus (repeat' (first | exact trivial | refine ⟨?_, ?_⟩))); exact hso)
    exact ⟨by rw [splitP, if_pos (.inl h0)]; rfl, rfl⟩
  have c0 : decide (k < 1) = false := decide_eq_false h0
  by_cases h1 : 32 < k
  · have c1 : decide (32 < k) = true := decide_eq_true h1
    repeat' (first | (apply og_ops; (first | (apply og_guard; (apply ops_guard_t; exact (rfl : _ = some _); exact (rfl : _ = PV.bool _); (assumption))) | (apply og_move; (apply op_move (tt := tt); (focus ((conv => lhs; whnf); try exact rfl)); exact rfl)) | (apply og_assign; (first | (apply op_nil (tt := tt); exact rfl; exact ltn rfl) | (apply op_assign (tt := tt); (focus ((conv => lhs; whnf); try exact rfl)); exact rfl))) | (apply og_bin; (apply op_bin true tab; (focus ((conv => lhs; whnf; arg 1; whnf; arg 2; whnf); try exact rfl)); (exact trivial); exact rfl)) | (apply og_pick; (apply op_pick (tt := tt); exact (rfl : _ = PV.bool _); (refine .inr ⟨by assumption, ?_⟩); (focus ((conv => lhs; whnf); try exact rfl)); exact ltn rfl)) | (apply ops_nil))) | (apply og_sat; (first | (apply sat_seq) | (apply sat_region) | (apply sat_cond_t; exact rfl; (assumption)) | (apply sat_ret))) | (apply pe_norm) | (apply pe_ret))
    (change fnPost _ _ _ _ _ _ _; apply fn_endN; (exact .inr rfl); (focus (repeat' (first | (apply rr_tmp; (focus ((conv => lhs; whnf); try exact rfl)); (first | exact Wk.sh | exact Wk.same _)) | exact rr_nil))); exact rfl; (exact (List.append_nil _).symm); exact Nat.le_refl _; (focus (repeat' (first | exact trivial | refine ⟨?_, ?_⟩))); exact hso)
    exact ⟨by rw [splitP, if_pos (.inr h1)]; rfl, rfl⟩
  have c1 : decide (32 < k) = false := decide_eq_false h1
  obtain ⟨m, rfl⟩ : ∃ m : Nat, k = m := ⟨k.toNat, by omega⟩
  obtain ⟨c, hc⟩ : ∃ c : Nat, c = (s.size + m - 1) / m := ⟨_, rfl⟩
  have hm : 0 < m := by omega
  have hcm : s.size ≤ c * m := by
    have h2 := Nat.div_add_mod (s.size + m - 1) m
    have h3 := Nat.mod_lt (s.size + m - 1) hm
    rw [← hc, Nat.mul_comm] at h2; omega
  have hcu : c * m ≤ s.size + m := by
    have h2 := Nat.div_mul_le_self (s.size + m - 1) m
    rw [← hc] at h2; omega
  have hcs : c ≤ 2000032 := by
    have h2 : c * 1 ≤ c * m := Nat.mul_le_mul_left c hm
    omega
  obtain ⟨N, hN⟩ : ∃ N : Nat, N = c * m := ⟨_, rfl⟩
  rw [← hN] at hcm hcu
  have hbl : (bi s).length ≤ N := by rw [bi_len]; exact hcm
  have hpl := padI_len hbl
  repeat' (first | (apply og_ops; (first | (apply og_guard; (apply ops_guard_t; exact (rfl : _ = some _); exact (rfl : _ = PV.bool _); (assumption))) | (apply og_move; (apply op_move (tt := tt); (focus ((conv => lhs; whnf); try exact rfl)); exact rfl)) | (apply og_assign; (first | (apply op_nil (tt := tt); exact rfl; exact ltn rfl) | (apply op_assign (tt := tt); (focus ((conv => lhs; whnf); try exact rfl)); exact rfl))) | (apply og_bin; (apply op_bin true tab; (focus ((conv => lhs; whnf; arg 1; whnf; arg 2; whnf); try exact rfl)); (exact trivial); exact rfl)) | (apply og_pick; (apply op_pick (tt := tt); exact (rfl : _ = PV.bool _); (refine .inr ⟨by assumption, ?_⟩); (focus ((conv => lhs; whnf); try exact rfl)); exact ltn rfl)) | (apply ops_nil))) | (apply og_sat; (first | (apply sat_seq) | (apply sat_region) | (apply sat_cond_f; exact rfl; (assumption)) | (apply sat_skip) | (apply sat_block))) | (apply pe_norm))
  refine sat_loopW (fun j : Nat => [(0, .str s), (1, .int .i64 m), (6, .int .i64 j)]) (fun _ => σ) (fun j => j ≤ c) (fun j => c - j) 0 (Nat.zero_le _) ?_ rfl ?_
  · (repeat' (first | exact trivial | exact Wk.same _ | refine ⟨?_, ?_⟩))
  rintro j hj
  obtain ⟨B, hB⟩ : ∃ B : Nat, B = j * m := ⟨_, rfl⟩
  have hBN : B ≤ N := by rw [hB, hN]; exact Nat.mul_le_mul_right m hj
  have e1 : (j : Int) * (m : Int) = (B : Int) := by rw [hB, Int.natCast_mul]
  by_cases hjc : j < c
  · have hlt := (ceil_lt hm hc).2 hjc
    have d1 : decide ((j : Int) * (m : Int) < (s.size : Int)) = true := decide_eq_true (by rw [e1, hB]; omega)
    repeat' (first | (apply og_ops; (first | (apply og_move; (apply op_move (tt := tt); (focus ((conv => lhs; whnf); try exact rfl)); exact rfl)) | (apply og_assign; (apply op_assign (tt := tt); (focus ((conv => lhs; whnf); try exact rfl)); exact rfl)) | (apply og_bin; (apply op_bin true tab; (focus ((conv => lhs; whnf; arg 1; whnf; arg 2; whnf); try exact rfl)); (first | exact trivial | (simp only [InR]; omega)); exact rfl)) | (apply og_callb; (apply op_len tab; (focus ((conv => lhs; whnf; arg 1; whnf; arg 2; whnf); try exact rfl)); (exact trivial); exact rfl)) | (apply ops_nil))) | (apply og_sat; (first | (apply sat_seq) | (apply sat_region) | (apply sat_cond_t; exact rfl; (assumption)) | (apply sat_skip) | (apply sat_block))) | (apply pe_norm) | (apply pb_norm))
    refine ⟨j + 1, by omega, by omega, ?_, rfl⟩
    (repeat' (first | exact trivial | exact Wk.same _ | refine ⟨?_, ?_⟩))
  have hge : ¬ j * m < s.size := fun h => hjc ((ceil_lt hm hc).1 h)
  have d1 : decide ((j : Int) * (m : Int) < (s.size : Int)) = false := decide_eq_false (by rw [e1, hB]; omega)
  have hjc' : j = c := by omega
  subst hjc'
  repeat' (first | (apply og_ops; (first | (apply og_move; (apply op_move (tt := tt); (focus ((conv => lhs; whnf); try exact rfl)); exact rfl)) | (apply og_assign; (first | (apply op_nil (tt := tt); exact rfl; exact ltn rfl) | (apply op_assign (tt := tt); (focus ((conv => lhs; whnf); try exact rfl)); exact rfl))) | (apply og_bin; (apply op_bin true tab; (focus ((conv => lhs; whnf; arg 1; whnf; arg 2; whnf); try exact rfl)); (first | exact trivial | (simp only [InR]; omega)); exact rfl)) | (apply og_callb; (apply op_len tab; (focus ((conv => lhs; whnf; arg 1; whnf; arg 2; whnf); try exact rfl)); (exact trivial); exact rfl)) | (apply ops_nil))) | (apply og_sat; (first | (apply sat_seq) | (apply sat_region) | (apply sat_cond_f; exact rfl; (assumption)) | (apply sat_block) | (apply sat_exit))) | (apply pe_norm) | (apply pe_exit) | (apply pb_same))
  obtain ⟨P, hP⟩ : ∃ P, P = piecesP s m := ⟨_, rfl⟩
  have hPl : P.length = m := by rw [hP]; simp [piecesP]
  have hPi : ∀ i, i < m → P.getD i default = ofI (((padI (bi s) N).drop (i * j)).take j) := fun i hi => by
    rw [hP, hN, hc]; simp [piecesP, List.getD, hi]
  refine sat_loopW (fun i : Nat => [(0, .str s), (1, .int .i64 m), (6, .int .i64 j), (7, .sl .ow 1 ((P.take i).map PV.str)), (8, .int .i64 i)]) (fun _ => σ) (fun i => i ≤ m) (fun i => m - i) 0 (Nat.zero_le _) ?_ rfl ?_
  · (repeat' (first | exact trivial | exact Wk.same _ | refine ⟨?_, ?_⟩))
  rintro i hi
  by_cases him : i < m
  · have d2 : decide ((i : Int) < (m : Int)) = true := decide_eq_true (by omega)
    obtain ⟨A, hA⟩ : ∃ A : Nat, A = i * j := ⟨_, rfl⟩
    have hAN : A + j ≤ N := by
      rw [hA, hN]
      have h2 : (i + 1) * j ≤ m * j := Nat.mul_le_mul_right j him
      rw [Nat.add_mul, Nat.one_mul] at h2
      rw [Nat.mul_comm j m]; exact h2
    have e3 : (i : Int) * (j : Int) = (A : Int) := by rw [hA, Int.natCast_mul]
    have e4 : ((i : Int) + 1) * (j : Int) = ((A + j : Nat) : Int) := by rw [Int.add_mul, Int.one_mul, e3]; omega
    have e6 : P.take (i + 1) = P.take i ++ [P.getD i default] := by
      rw [List.take_succ_eq_append_getElem (by omega)]; simp [List.getD, show i < P.length by omega]
    repeat' (first | (apply og_ops; (first | (apply og_move; (apply op_move (tt := tt); (focus ((conv => lhs; whnf); try exact rfl)); exact rfl)) | (apply og_assign; (first | (apply op_nil (tt := tt); exact rfl; exact ltn rfl) | (apply op_assign (tt := tt); (focus ((conv => lhs; whnf); try exact rfl)); exact rfl))) | (apply og_bin; (apply op_bin true tab; (focus ((conv => lhs; whnf; arg 1; whnf; arg 2; whnf); try exact rfl)); (first | exact trivial | (simp only [InR]; omega)); exact rfl)) | (apply ops_nil))) | (apply og_sat; (first | (apply sat_seq) | (apply sat_region) | (apply sat_cond_t; exact rfl; (assumption)) | (apply sat_skip) | (apply sat_block))) | (apply pe_norm))
    rw [e3]
    refine sat_loopW (fun t : Nat => [(0, .str s), (1, .int .i64 m), (6, .int .i64 j), (7, .sl .ow 1 ((P.take i).map PV.str)), (8, .int .i64 i), (9, .sl .ow 1 ((((padI (bi s) N).drop A).take t).map (.int .u8))), (10, .int .i64 ((A + t : Nat) : Int))]) (fun _ => σ) (fun t => t ≤ j) (fun t => j - t) 0 (Nat.zero_le _) ?_ rfl ?_
    · (repeat' (first | exact trivial | exact Wk.same _ | refine ⟨?_, ?_⟩))
    rintro t ht
    by_cases htj : t < j
    · have d3 : decide (((A + t : Nat) : Int) < ((i : Int) + 1) * (j : Int)) = true := decide_eq_true (by rw [e4]; omega)
      have e7 : ((padI (bi s) N).drop A).take (t + 1) = ((padI (bi s) N).drop A).take t ++ [(padI (bi s) N).getD (A + t) 0] := take_snoc0 (by omega)
      by_cases hAL : A + t < s.size
      · have d4 : decide (((A + t : Nat) : Int) < (s.size : Int)) = true := decide_eq_true (by omega)
        repeat' (first | (apply og_ops; (first | (apply og_move; (first | (apply op_take (d := 45) (.inr rfl); (focus ((conv => lhs; whnf); try exact rfl)); exact rfl; exact ltn rfl) | (apply op_move (tt := tt); (focus ((conv => lhs; whnf); try exact rfl)); exact rfl))) | (apply og_assign; (first | (apply op_take (.inl rfl); (focus ((conv => lhs; whnf); try exact rfl)); exact rfl; exact ltn rfl) | (apply op_assign (tt := tt); (focus ((conv => lhs; whnf); try exact rfl)); exact rfl))) | (apply og_bin; (apply op_bin true tab; (focus ((conv => lhs; whnf; arg 1; whnf; arg 2; whnf); try exact rfl)); (first | exact trivial | (simp only [InR]; omega)); exact rfl)) | (apply og_callb; (first | (apply op_appendX tab; (focus ((conv => lhs; whnf); try exact rfl)); exact rfl; exact rfl; exact rfl; exact rfl; exact rfl; (focus ((conv => lhs; whnf); try exact rfl)); exact rfl; (simp only [List.length_map, List.length_append, List.length_cons, List.length_nil, List.length_take]; omega); (exact rfl); exact rfl) | (apply op_len tab; (focus ((conv => lhs; whnf; arg 1; whnf; arg 2; whnf); try exact rfl)); (exact trivial); exact rfl))) | (apply og_index; (apply op_index tab (tI := 3); (focus ((conv => lhs; whnf; arg 1; whnf; arg 2; whnf); try exact rfl)); (omega); exact rfl)) | (apply og_buildSlice; (apply op_buildSliceX .ow tab; exact rfl; (focus ((repeat (apply opvs_cons; (focus ((conv => lhs; whnf); try exact rfl)))); exact opvs_nil)); exact rfl; exact rfl; exact rfl; exact rfl; exact rfl; exact rfl)) | (apply ops_nil))) | (apply og_sat; (first | (apply sat_seq) | (apply sat_region) | (apply sat_cond_t; exact rfl; (assumption)) | (apply sat_skip) | (apply sat_block))) | (apply pe_norm) | (apply pb_norm))
        rw [bt_bi, Int.toNat_natCast]
        refine ⟨t + 1, by omega, by omega, ?_, rfl⟩
        rw [e7, padI_get (by rw [bi_len]; exact hAL), List.map_append]
        (repeat' (first | exact trivial | exact Wk.same _ | refine ⟨?_, ?_⟩))
      · have d4 : decide (((A + t : Nat) : Int) < (s.size : Int)) = false := decide_eq_false (by omega)
        repeat' (first | (apply og_ops; (first | (apply og_move; (first | (apply op_take (d := 51) (.inr rfl); (focus ((conv => lhs; whnf); try exact rfl)); exact rfl; exact ltn rfl) | (apply op_move (tt := tt); (focus ((conv => lhs; whnf); try exact rfl)); exact rfl))) | (apply og_assign; (first | (apply op_take (.inl rfl); (focus ((conv => lhs; whnf); try exact rfl)); exact rfl; exact ltn rfl) | (apply op_assign (tt := tt); (focus ((conv => lhs; whnf); try exact rfl)); exact rfl))) | (apply og_bin; (apply op_bin true tab; (focus ((conv => lhs; whnf; arg 1; whnf; arg 2; whnf); try exact rfl)); (first | exact trivial | (simp only [InR]; omega)); exact rfl)) | (apply og_callb; (first | (apply op_appendX tab; (focus ((conv => lhs; whnf); try exact rfl)); exact rfl; exact rfl; exact rfl; exact rfl; exact rfl; (focus ((conv => lhs; whnf); try exact rfl)); exact rfl; (simp only [List.length_map, List.length_append, List.length_cons, List.length_nil, List.length_take]; omega); (exact rfl); exact rfl) | (apply op_len tab; (focus ((conv => lhs; whnf; arg 1; whnf; arg 2; whnf); try exact rfl)); (exact trivial); exact rfl))) | (apply og_buildSlice; (apply op_buildSliceX .ow tab; exact rfl; (focus ((repeat (apply opvs_cons; (focus ((conv => lhs; whnf); try exact rfl)))); exact opvs_nil)); exact rfl; exact rfl; exact rfl; exact rfl; exact rfl; exact rfl)) | (apply ops_nil))) | (apply og_sat; (first | (apply sat_seq) | (apply sat_region) | (apply sat_cond_t; exact rfl; (assumption)) | (apply sat_cond_f; exact rfl; (assumption)) | (apply sat_skip) | (apply sat_block))) | (apply pe_norm) | (apply pb_norm))
        refine ⟨t + 1, by omega, by omega, ?_, rfl⟩
        rw [e7, padI_get0 (by rw [bi_len]; omega), List.map_append]
        (repeat' (first | exact trivial | exact Wk.same _ | refine ⟨?_, ?_⟩))
    · have d3 : decide (((A + t : Nat) : Int) < ((i : Int) + 1) * (j : Int)) = false := decide_eq_false (by rw [e4]; omega)
      have ht' : t = j := by omega
      subst ht'
      repeat' (first | (apply og_ops; (first | (apply og_move; (first | (apply op_take (d := 54) (.inr rfl); (focus ((conv => lhs; whnf); try exact rfl)); exact rfl; exact ltn rfl) | (apply op_move (tt := tt); (focus ((conv => lhs; whnf); try exact rfl)); exact rfl))) | (apply og_assign; (first | (apply op_take (.inl rfl); (focus ((conv => lhs; whnf); try exact rfl)); exact rfl; exact ltn rfl) | (apply op_assign (tt := tt); (focus ((conv => lhs; whnf); try exact rfl)); exact rfl))) | (apply og_bin; (apply op_bin true tab; (focus ((conv => lhs; whnf; arg 1; whnf; arg 2; whnf); try exact rfl)); (first | exact trivial | (simp only [InR]; omega)); exact rfl)) | (apply og_callb; (apply op_appendX tab; (focus ((conv => lhs; whnf); try exact rfl)); exact rfl; exact rfl; exact rfl; exact rfl; exact rfl; (focus ((conv => lhs; whnf); try exact rfl)); exact rfl; (simp only [List.length_map, List.length_append, List.length_cons, List.length_nil, List.length_take]; omega); (exact rfl); exact rfl)) | (apply og_conv; (apply op_lk; (apply lk_bytesStr tab; exact rfl; exact rfl; exact rfl; exact rfl; (focus ((conv => lhs; whnf); try exact rfl)); (exact srcM_sl); exact rfl); (intro c h; cases h); exact rfl)) | (apply og_buildSlice; (apply op_buildSliceX .ow tab; exact rfl; (focus ((repeat (apply opvs_cons; (focus ((conv => lhs; whnf); try exact rfl)))); exact opvs_nil)); exact rfl; exact rfl; exact rfl; exact rfl; exact rfl; exact rfl)) | (apply ops_nil))) | (apply og_sat; (first | (apply sat_seq) | (apply sat_region) | (apply sat_cond_f; exact rfl; (assumption)) | (apply sat_exit))) | (apply pe_norm) | (apply pb_norm) | (apply pe_exit) | (apply pb_same))
      rw [hA, ← hPi i him]
      refine ⟨i + 1, by omega, by omega, ?_, rfl⟩
      rw [e6, List.map_append]
      (repeat' (first | exact trivial | exact Wk.same _ | refine ⟨?_, ?_⟩))
  · have d2 : decide ((i : Int) < (m : Int)) = false := decide_eq_false (by omega)
    have hi' : i = m := by omega
    subst hi'
    repeat' (first | (apply og_ops; (first | (apply og_move; (apply op_move (tt := tt); (focus ((conv => lhs; whnf); try exact rfl)); exact rfl)) | (apply og_assign; (apply op_assign (tt := tt); (focus ((conv => lhs; whnf); try exact rfl)); exact rfl)) | (apply og_bin; (apply op_bin true tab; (focus ((conv => lhs; whnf; arg 1; whnf; arg 2; whnf); try exact rfl)); (exact trivial); exact rfl)) | (apply ops_nil))) | (apply og_sat; (first | (apply sat_seq) | (apply sat_region) | (apply sat_cond_f; exact rfl; (assumption)) | (apply sat_ret) | (apply sat_exit))) | (apply pe_norm) | (apply pe_exit) | (apply pb_same))
    (change fnPost _ _ _ _ _ _ _; apply fn_endN; (exact .inr rfl); (focus (repeat' (first | (apply rr_tmp; (focus ((conv => lhs; whnf); try exact rfl)); (exact Wk.same _)) | exact rr_nil))); exact rfl; (exact (List.append_nil _).symm); exact Nat.le_refl _; (focus (repeat' (first | exact trivial | refine ⟨?_, ?_⟩))); exact hso)
    exact ⟨by rw [splitP, if_neg (by omega), Int.toNat_natCast, ← hP, List.take_of_length_le (by omega)]; rfl, rfl⟩

end Go.Proofs.Ytecleclpakiocaa.Pv
