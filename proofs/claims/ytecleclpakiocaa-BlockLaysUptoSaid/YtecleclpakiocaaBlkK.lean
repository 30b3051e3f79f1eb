/- BlockSums. -/
import Derived.Test.YtecleclpakiocaaBlkJ
namespace Go.Proofs.Ytecleclpakiocaa.Pv
open Go
set_option linter.unusedVariables false
set_option linter.unusedSimpArgs false
set_option maxRecDepth 100000

theorem xorI_pad {a b : List Int} {N : Nat} (h : a.length = b.length) : padI (xorI a b) N = xorI (padI a N) (padI b N) := by
  rw [padI, padI, padI, xorI_len h, ← h, xorI, xorI, List.zipWith_append h]
  congr 1
  have := xorI_self (List.replicate (N - a.length) 0)
  rw [xorI, List.length_replicate] at this
  exact this.symm
theorem xorI_cut (a b : List Int) (o c : Nat) : ((xorI a b).drop o).take c = xorI ((a.drop o).take c) ((b.drop o).take c) := by
  rw [xorI, xorI, List.drop_zipWith, List.take_zipWith]

theorem xor_pieces {s u : ByteArray} (h : s.size = u.size) {m : Nat} (hm : 0 < m) {i : Nat} (hi : i < m) :
    xorP ((piecesP s m).getD i default) ((piecesP u m).getD i default) = ((piecesP (xorP s u).1 m).getD i default, 0) := by
  have hx := xorP_size h
  have get : ∀ v : ByteArray, v.size = s.size → (piecesP v m).getD i default = ofI (((padI (bi v) ((s.size + m - 1) / m * m)).drop (i * ((s.size + m - 1) / m))).take ((s.size + m - 1) / m)) := fun v hv => by
    rw [piecesP, hv]; simp [List.getD, hi]
  have hp1 := (pieces_ok s hm).size i hi
  have hp2 := (pieces_ok u hm).size i hi
  rw [xorP, if_pos (by rw [hp1, hp2, h])]
  have byt : ∀ (v : ByteArray) (N o c : Nat), ∀ x ∈ ((padI (bi v) N).drop o).take c, 0 ≤ x ∧ x ≤ 255 := fun v N o c x hx => padI_byte (List.mem_of_mem_drop (List.mem_of_mem_take hx))
  rw [get s rfl, get u h.symm, get _ hx, bi_xorP h, bi_ofI (byt s _ _ _), bi_ofI (byt u _ _ _), ← xorI_cut, ← xorI_pad (by rw [bi_len, bi_len, h])]

theorem blockSums_sat (s u : ByteArray) (k : Int) (hs : s.size ≤ 2000000) (hu : u.size ≤ 2000000) (σ : Sto) : SatCall Try.prog 8 [.str s, .str u, .int .i64 k] σ fun x σ' => x = .bool true ∧ σ' = σ := by
  refine sat_fn tab Try.func8 rfl (Nat.le_of_ble_eq_true rfl) (by decide) fun hso => ?_
  by_cases h0 : s.size = u.size
  · have e0 : (xorP s u).2 = 0 := by rw [xorP, if_pos h0]
    have c0 : ((xorP s u).2 != 0) = false := by rw [e0]; rfl
    by_cases hk : k < 1 ∨ 32 < k
    · have c1 : ((splitP s k).2 != 0) = true := by rw [splitP, if_pos hk]; rfl
      repeat' (first | (apply og_ops; (first | (apply og_guard; (first | (apply ops_guard_t; exact (rfl : _ = some _); exact (rfl : _ = PV.bool _); (assumption)) | (apply ops_guard_f'; exact (rfl : _ = some _); exact (rfl : _ = PV.bool _); (assumption); exact ltn rfl))) | (apply og_move; (apply op_move (tt := tt); (focus ((conv => lhs; whnf); try exact rfl)); exact rfl)) | (apply og_assign; (apply op_assign (tt := tt); (focus ((conv => lhs; whnf); try exact rfl)); exact rfl)) | (apply og_callv; (first | (refine op_callP (tt := tt) cal10 (shown_sat _) rfl rfl rfl rfl rfl ?_) | (refine op_callP (tt := tt) cal18 (xor_sat _ _ ?_ _) rfl rfl rfl rfl rfl ?_; (omega)) | (refine op_callP (tt := tt) cal11 (split_sat _ _ ?_ _) rfl rfl rfl rfl rfl ?_; (assumption)))) | (apply og_bin; (apply op_bin true tab; (focus ((conv => lhs; whnf; arg 1; whnf; arg 2; whnf); try exact rfl)); (exact trivial); exact rfl)) | (apply og_pick; (apply op_pick (tt := tt); exact (rfl : _ = PV.bool _); (first | refine .inl ⟨by assumption, ?_⟩ | refine .inr ⟨by assumption, ?_⟩); (focus ((conv => lhs; whnf); try exact rfl)); exact ltn rfl)) | (apply og_extract; (apply op_extract (tt := tt); (focus ((conv => lhs; whnf; arg 1; whnf; arg 2; whnf); try exact rfl)); (exact trivial); exact rfl)) | (apply ops_nil))) | (apply og_sat; (first | (apply sat_seq) | (apply sat_region) | (apply sat_cond_t; exact rfl; (exact rfl)) | (apply sat_ret))) | (apply pe_norm) | (apply pe_ret))
      (change fnPost _ _ _ _ _ _ _; apply fn_endN; (exact .inr rfl); (focus (repeat' (first | (apply rr_tmp; (focus ((conv => lhs; whnf); try exact rfl)); (exact Wk.same _)) | exact rr_nil))); exact rfl; (exact (List.append_nil _).symm); exact Nat.le_refl _; (focus (repeat' (first | exact trivial | refine ⟨?_, ?_⟩))); exact hso)
      exact ⟨rfl, rfl⟩
    obtain ⟨m, rfl⟩ : ∃ m : Nat, k = m := ⟨k.toNat, by omega⟩
    have hm : 0 < m := by omega
    have hsp : ∀ v, splitP v (m : Int) = (piecesP v m, 0) := fun v => by rw [splitP, if_neg hk, Int.toNat_natCast]
    have z1 := xorP_size h0
    have z2 : (xorP s u).1.size ≤ 2000000 := by omega
    have hX := xor_sat s u (by omega) σ
    have hS1 := split_sat s m hs σ
    have hS2 := split_sat u m hu σ
    have hS3 := split_sat (xorP s u).1 m z2 σ
    rw [hsp] at hS1 hS2 hS3
    have hxp := fun i hi => xor_pieces (i := i) h0 hm hi
    have hp1 := pieces_ok s hm
    have hp2 := pieces_ok u hm
    have hp3 := (pieces_ok (xorP s u).1 hm).len
    generalize piecesP s m = P at hS1 hxp hp1
    obtain ⟨c, hc⟩ : ∃ c, c = (s.size + m - 1) / m := ⟨_, rfl⟩
    rw [← hc] at hp1
    generalize piecesP u m = Q at hS2 hxp hp2
    generalize piecesP (xorP s u).1 m = R at hS3 hxp hp3
    dsimp only at hS1 hS2 hS3
    generalize xorP s u = X at hX hS3 e0 c0 z1 z2
    obtain ⟨x, e⟩ := X
    dsimp only at hX hS3 e0 z1 z2
    subst e0
    have d1 : (((P.map PV.str).length : Int) != (m : Int)) = false := by simp [hp1.len]
    have d2 : (((Q.map PV.str).length : Int) != (m : Int)) = false := by simp [hp2.len]
    have d3 : (((R.map PV.str).length : Int) != (m : Int)) = false := by simp [hp3]
    repeat' (first | (apply og_ops; (first | (apply og_move; (apply op_move (tt := tt); (focus ((conv => lhs; whnf); try exact rfl)); exact rfl)) | (apply og_assign; (apply op_assign (tt := tt); (focus ((conv => lhs; whnf); try exact rfl)); exact rfl)) | (apply og_callv; (refine op_callP (tt := tt) cal10 (shown_sat _) rfl rfl rfl rfl rfl ?_)) | (apply ops_nil))) | (apply og_sat; (first | (apply sat_seq) | (apply sat_region))) | (apply pe_norm))
    refine op_callP (tt := tt) cal18 hX rfl rfl rfl rfl rfl ?_
    repeat' (first | (apply og_ops; (first | (apply og_move; (apply op_move (tt := tt); (focus ((conv => lhs; whnf); try exact rfl)); exact rfl)) | (apply og_assign; (apply op_assign (tt := tt); (focus ((conv => lhs; whnf); try exact rfl)); exact rfl)) | (apply og_extract; (apply op_extract (tt := tt); (focus ((conv => lhs; whnf; arg 1; whnf; arg 2; whnf); try exact rfl)); (exact trivial); exact rfl)) | (apply ops_nil))) | (apply og_sat; (first | (apply sat_seq) | (apply sat_region))) | (apply pe_norm))
    refine op_callP (tt := tt) cal11 hS1 rfl rfl rfl rfl rfl ?_
    repeat' (first | (apply og_ops; (first | (apply og_move; (apply op_move (tt := tt); (focus ((conv => lhs; whnf); try exact rfl)); exact rfl)) | (apply og_assign; (apply op_assign (tt := tt); (focus ((conv => lhs; whnf); try exact rfl)); exact rfl)) | (apply og_extract; (apply op_extract (tt := tt); (focus ((conv => lhs; whnf; arg 1; whnf; arg 2; whnf); try exact rfl)); (exact trivial); exact rfl)) | (apply ops_nil))) | (apply og_sat; (first | (apply sat_seq) | (apply sat_region))) | (apply pe_norm))
    refine op_callP (tt := tt) cal11 hS2 rfl rfl rfl rfl rfl ?_
    repeat' (first | (apply og_ops; (first | (apply og_guard; (apply ops_guard_t; exact (rfl : _ = some _); exact (rfl : _ = PV.bool _); (exact rfl))) | (apply og_move; (apply op_move (tt := tt); (focus ((conv => lhs; whnf); try exact rfl)); exact rfl)) | (apply og_assign; (apply op_assign (tt := tt); (focus ((conv => lhs; whnf); try exact rfl)); exact rfl)) | (apply og_bin; (apply op_bin true tab; (focus ((conv => lhs; whnf; arg 1; whnf; arg 2; whnf); try exact rfl)); (exact trivial); exact rfl)) | (apply og_pick; (apply op_pick (tt := tt); exact (rfl : _ = PV.bool _); (refine .inr ⟨rfl, ?_⟩); (focus ((conv => lhs; whnf); try exact rfl)); exact ltn rfl)) | (apply og_extract; (apply op_extract (tt := tt); (focus ((conv => lhs; whnf; arg 1; whnf; arg 2; whnf); try exact rfl)); (exact trivial); exact rfl)) | (apply ops_nil))) | (apply og_sat; (first | (apply sat_seq) | (apply sat_region) | (apply sat_cond_f; exact rfl; (exact rfl)) | (apply sat_skip))) | (apply pe_norm))
    refine op_callP (tt := tt) cal11 hS3 rfl rfl rfl rfl rfl ?_
    repeat' (first | (apply og_ops; (first | (apply og_guard; (apply ops_guard_t; exact (rfl : _ = some _); exact (rfl : _ = PV.bool _); (first | exact rfl | assumption))) | (apply og_move; (apply op_move (tt := tt); (focus ((conv => lhs; whnf); try exact rfl)); exact rfl)) | (apply og_assign; (apply op_assign (tt := tt); (focus ((conv => lhs; whnf); try exact rfl)); exact rfl)) | (apply og_bin; (apply op_bin true tab; (focus ((conv => lhs; whnf; arg 1; whnf; arg 2; whnf); try exact rfl)); (exact trivial); exact rfl)) | (apply og_pick; (apply op_pick (tt := tt); exact (rfl : _ = PV.bool _); (first | refine .inr ⟨rfl, ?_⟩ | refine .inr ⟨by assumption, ?_⟩); (focus ((conv => lhs; whnf); try exact rfl)); exact ltn rfl)) | (apply og_callb; (apply op_len tab; (focus ((conv => lhs; whnf; arg 1; whnf; arg 2; whnf); try exact rfl)); (exact trivial); exact rfl)) | (apply og_extract; (apply op_extract (tt := tt); (focus ((conv => lhs; whnf; arg 1; whnf; arg 2; whnf); try exact rfl)); (exact trivial); exact rfl)) | (apply ops_nil))) | (apply og_sat; (first | (apply sat_seq) | (apply sat_region) | (apply sat_cond_f; exact rfl; (assumption)) | (apply sat_skip) | (apply sat_block))) | (apply pe_norm))
    refine sat_loopW (fun i : Nat => [(2, .int .i64 m), (7, .bool true), (10, .sl .sh 1 (P.map PV.str)), (12, .sl .sh 1 (Q.map PV.str)), (14, .sl .sh 1 (R.map PV.str)), (16, .int .i64 i)]) (fun _ => σ) (fun i => i ≤ m) (fun i => m - i) 0 (Nat.zero_le _) ?_ rfl ?_
    · (repeat' (first | exact trivial | exact Wk.same _ | refine ⟨?_, ?_⟩))
    rintro i hi
    by_cases him : i < m
    · have f1 : decide ((i : Int) < (m : Int)) = true := decide_eq_true (by omega)
      have hPl : (P.map PV.str).length = m := by rw [List.length_map, hp1.len]
      have hQl : (Q.map PV.str).length = m := by rw [List.length_map, hp2.len]
      have hRl : (R.map PV.str).length = m := by rw [List.length_map, hp3]
      have hpl := hp1.len
      have hql := hp2.len
      have hx := hxp i him
      have hz := hp1.size i him
      have hz2 := hp1.le
      have hz3 : c * 1 ≤ c * m := Nat.mul_le_mul_left _ hm
      have hz4 : (P.getD ((i : Nat) : Int).toNat default).size ≤ 4000000 := by rw [Int.toNat_natCast, hz]; omega
      have g1 : (!beqS (xorP (P.getD ((i : Nat) : Int).toNat default) (Q.getD ((i : Nat) : Int).toNat default)).1 (R.getD ((i : Nat) : Int).toNat default)) = false := by
        rw [Int.toNat_natCast, hx, beqS_iff.2 rfl]; rfl
      have g2 : ((xorP (P.getD ((i : Nat) : Int).toNat default) (Q.getD ((i : Nat) : Int).toNat default)).2 != 0) = false := by rw [Int.toNat_natCast, hx]; rfl
      repeat' (first | (apply og_ops; (first | (apply og_guard; (apply ops_guard_t; exact (rfl : _ = some _); exact (rfl : _ = PV.bool _); (assumption))) | (apply og_move; (apply op_move (tt := tt); (focus ((conv => lhs; whnf); try exact rfl)); exact rfl)) | (apply og_assign; (apply op_assign (tt := tt); (focus ((conv => lhs; whnf); try exact rfl)); exact rfl)) | (apply og_bin; (apply op_bin true tab; (focus ((conv => lhs; whnf; arg 1; whnf; arg 2; whnf); try exact rfl)); (first | exact trivial | (simp only [InR]; omega)); exact rfl)) | (apply og_pick; (apply op_pick (tt := tt); exact (rfl : _ = PV.bool _); (refine .inr ⟨by assumption, ?_⟩); (focus ((conv => lhs; whnf); try exact rfl)); exact ltn rfl)) | (apply og_load; (apply op_load tab; (focus ((conv => lhs; whnf; arg 1; whnf; arg 2; whnf); try skip)); (exact trivial); exact rfl)) | (apply og_indexAddr; (refine op_indexMap (tI := 3) _ tab rfl (by (focus ((conv => lhs; whnf); try exact rfl))) (by (focus ((conv => lhs; whnf); try exact rfl))) rfl (by (omega)) (by (omega)) (by (focus ((conv => lhs; whnf); try exact rfl))) (ltn rfl) ?_)) | (apply ops_nil))) | (apply og_sat; (first | (apply sat_seq) | (apply sat_region) | (apply sat_cond_t; exact rfl; (assumption)) | (apply sat_cond_f; exact rfl; (assumption)) | (apply sat_skip) | (apply sat_block) | (apply sat_drawC (k := 13); exact mixed; decide +kernel; decide +kernel))) | (apply pe_norm) | (apply pb_norm) | (apply og_dd; (first | (refine dd_cons (step_call (tt := tt) cal18 (xor_sat _ _ ?_ _) rfl rfl rfl rfl rfl) ?_; (assumption)) | (apply dd_lk; (first | (apply lg_indexAddr; exact lk_indexMap (tI := 3) _ tab rfl (by (focus ((conv => lhs; whnf); try exact rfl))) (by (focus ((conv => lhs; whnf); try exact rfl))) rfl (by (omega)) (by (omega)) (by (focus ((conv => lhs; whnf); try exact rfl)))) | (apply lg_move; (apply lk_move (tt := tt); (focus ((conv => lhs; whnf); try exact rfl)))) | (apply lg_assign; (apply lk_assign (tt := tt); (focus ((conv => lhs; whnf); try exact rfl)))) | (apply lg_extract; (apply lk_extract (tt := tt); (focus ((conv => lhs; whnf; arg 1; whnf; arg 2; whnf); try exact rfl)); (exact trivial))) | (apply lg_load; (apply lk_load tab; (focus ((conv => lhs; whnf; arg 1; whnf; arg 2; whnf); try skip)); (exact trivial)))); exact rfl; exact rfl) | (apply dd_nil))))
      refine ⟨i + 1, by omega, by omega, ?_, rfl⟩
      (repeat' (first | exact trivial | exact Wk.same _ | refine ⟨?_, ?_⟩))
    · have f1 : decide ((i : Int) < (m : Int)) = false := decide_eq_false (by omega)
      repeat' (first | (apply og_ops; (first | (apply og_move; (apply op_move (tt := tt); (focus ((conv => lhs; whnf); try exact rfl)); exact rfl)) | (apply og_assign; (apply op_assign (tt := tt); (focus ((conv => lhs; whnf); try exact rfl)); exact rfl)) | (apply og_bin; (apply op_bin true tab; (focus ((conv => lhs; whnf; arg 1; whnf; arg 2; whnf); try exact rfl)); (exact trivial); exact rfl)) | (apply ops_nil))) | (apply og_sat; (first | (apply sat_seq) | (apply sat_region) | (apply sat_cond_f; exact rfl; (assumption)) | (apply sat_ret) | (apply sat_exit))) | (apply pe_norm) | (apply pe_exit) | (apply pb_same))
      (change fnPost _ _ _ _ _ _ _; apply fn_endN; (exact .inr rfl); (focus (repeat' (first | (apply rr_tmp; (focus ((conv => lhs; whnf); try exact rfl)); (exact Wk.same _)) | exact rr_nil))); exact rfl; (exact (List.append_nil _).symm); exact Nat.le_refl _; (focus (repeat' (first | exact trivial | refine ⟨?_, ?_⟩))); exact hso)
      exact ⟨rfl, rfl⟩
  · have c0 : ((xorP s u).2 != 0) = true := by rw [xorP, if_neg h0]; rfl
    repeat' (first | (apply og_ops; (first | (apply og_guard; (apply ops_guard_f'; exact (rfl : _ = some _); exact (rfl : _ = PV.bool _); (first | exact rfl | assumption); exact ltn rfl)) | (apply og_move; (apply op_move (tt := tt); (focus ((conv => lhs; whnf); try exact rfl)); exact rfl)) | (apply og_assign; (apply op_assign (tt := tt); (focus ((conv => lhs; whnf); try exact rfl)); exact rfl)) | (apply og_callv; (first | (refine op_callP (tt := tt) cal10 (shown_sat _) rfl rfl rfl rfl rfl ?_) | (refine op_callP (tt := tt) cal18 (xor_sat _ _ ?_ _) rfl rfl rfl rfl rfl ?_; (omega)) | (refine op_callP (tt := tt) cal11 (split_sat _ _ ?_ _) rfl rfl rfl rfl rfl ?_; (assumption)))) | (apply og_bin; (apply op_bin true tab; (focus ((conv => lhs; whnf; arg 1; whnf; arg 2; whnf); try exact rfl)); (exact trivial); exact rfl)) | (apply og_pick; (apply op_pick (tt := tt); exact (rfl : _ = PV.bool _); (first | refine .inl ⟨rfl, ?_⟩ | refine .inl ⟨by assumption, ?_⟩); (focus ((conv => lhs; whnf); try exact rfl)); exact ltn rfl)) | (apply og_extract; (apply op_extract (tt := tt); (focus ((conv => lhs; whnf; arg 1; whnf; arg 2; whnf); try exact rfl)); (exact trivial); exact rfl)) | (apply ops_nil))) | (apply og_sat; (first | (apply sat_seq) | (apply sat_region) | (apply sat_cond_t; exact rfl; (exact rfl)) | (apply sat_ret))) | (apply pe_norm) | (apply pe_ret))
    (change fnPost _ _ _ _ _ _ _; apply fn_endN; (exact .inr rfl); (focus (repeat' (first | (apply rr_tmp; (focus ((conv => lhs; whnf); try exact rfl)); (exact Wk.same _)) | exact rr_nil))); exact rfl; (exact (List.append_nil _).symm); exact Nat.le_refl _; (focus (repeat' (first | exact trivial | refine ⟨?_, ?_⟩))); exact hso)
    exact ⟨rfl, rfl⟩

theorem blockSumsUpto_law (c0 : List PV) (h0 : HasC .str c0) (c1 : List PV) (h1 : HasC .str c1) (c2 : List PV) (h2 : HasC (.int .i64) c2) (hw : (mkV .str c0).wt + (mkV .str c1).wt + (mkV (.int .i64) c2).wt ≤ 1048576) :
    SatCall Try.prog 8 [mkV .str c0, mkV .str c1, mkV (.int .i64) c2] [] fun r _ => r = .bool true := by
  obtain ⟨s, _, rfl⟩ := h0
  obtain ⟨u, _, rfl⟩ := h1
  obtain ⟨k, _, rfl⟩ := h2
  simp only [mkV, PV.wt] at hw
  exact (blockSums_sat s u k (by omega) (by omega) []).mono fun _ _ h => h.1

end Go.Proofs.Ytecleclpakiocaa.Pv
