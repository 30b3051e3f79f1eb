/- BlockBack. -/
import Derived.Test.YtecleclpakiocaaBlkE
namespace Go.Proofs.Ytecleclpakiocaa.Pv
open Go
set_option linter.unusedVariables false
set_option linter.unusedSimpArgs false
set_option maxRecDepth 100000

theorem chunks_flat (c : Nat) : ∀ (m : Nat) (l : List Int), m * c ≤ l.length → ((List.range m).map fun i => (l.drop (i * c)).take c).flatten = l.take (m * c)
  | 0, l, _ => by simp
  | m + 1, l, h => by
    rw [Nat.add_mul, Nat.one_mul] at h ⊢
    rw [List.range_succ, List.map_append, List.flatten_append, chunks_flat c m l (by omega)]
    simp only [List.map_cons, List.map_nil, List.flatten_cons, List.flatten_nil, List.append_nil]
    rw [List.take_add]

theorem padI_byte {s : ByteArray} {N : Nat} {x : Int} (h : x ∈ padI (bi s) N) : 0 ≤ x ∧ x ≤ 255 := by
  simp only [padI, List.mem_append, List.mem_replicate] at h
  rcases h with h | h
  · exact bi_mem h
  · omega

structure Pieces (s : ByteArray) (m c : Nat) (P : List ByteArray) : Prop where
  len : P.length = m
  size : ∀ i, i < m → (P.getD i default).size = c
  flat : catI P = padI (bi s) (c * m)
  ge : s.size ≤ c * m
  lt : c = 0 ∨ (c - 1) * m < s.size
  le : c * m ≤ s.size + m

theorem pieces_ok (s : ByteArray) {m : Nat} (hm : 0 < m) : Pieces s m ((s.size + m - 1) / m) (piecesP s m) := by
  obtain ⟨c, hc⟩ : ∃ c : Nat, c = (s.size + m - 1) / m := ⟨_, rfl⟩
  rw [← hc]
  have hcm : s.size ≤ c * m := by
    have h2 := Nat.div_add_mod (s.size + m - 1) m
    have h3 := Nat.mod_lt (s.size + m - 1) hm
    rw [← hc, Nat.mul_comm] at h2; omega
  have hcu : c * m ≤ s.size + m := by
    have h2 := Nat.div_mul_le_self (s.size + m - 1) m
    rw [← hc] at h2; omega
  have hpl : (padI (bi s) (c * m)).length = c * m := padI_len (by rw [bi_len]; exact hcm)
  have hget : piecesP s m = (List.range m).map fun i => ofI (((padI (bi s) (c * m)).drop (i * c)).take c) := by rw [piecesP, ← hc]
  refine ⟨by rw [hget]; simp, fun i hi => ?_, ?_, hcm, ?_, hcu⟩
  · rw [hget]
    have h2 : (i + 1) * c ≤ m * c := Nat.mul_le_mul_right c hi
    rw [Nat.add_mul, Nat.one_mul, Nat.mul_comm m c] at h2
    simp only [List.getD, List.getElem?_map, List.getElem?_range hi, Option.map_some, Option.getD_some]
    rw [ofI_size, List.length_take, List.length_drop, hpl]; omega
  · have e : (piecesP s m).map bi = (List.range m).map fun i => ((padI (bi s) (c * m)).drop (i * c)).take c := by
      rw [hget, List.map_map]
      refine List.map_congr_left fun i _ => ?_
      exact bi_ofI fun x hx => padI_byte (List.mem_of_mem_drop (List.mem_of_mem_take hx))
    rw [catI, e, chunks_flat c m _ (by rw [hpl, Nat.mul_comm]; exact Nat.le_refl _), List.take_of_length_le (by rw [hpl, Nat.mul_comm]; exact Nat.le_refl _)]
  · rcases Nat.eq_zero_or_pos c with e | e
    · exact .inl e
    · refine .inr ((ceil_lt hm hc).2 (by omega))

theorem join_back (s : ByteArray) {m c : Nat} {P : List ByteArray} (h : Pieces s m c P) : joinP P s.size = (s, 0) := by
  rw [joinP, h.flat, padI_len (by rw [bi_len]; exact h.ge), if_neg (by have := h.ge; omega), Int.toNat_natCast, ofI_extract fun _ hx => padI_byte hx]
  rw [padI, List.take_append_of_le_length (by rw [bi_len]; exact Nat.le_refl _), List.take_of_length_le (by rw [bi_len]; exact Nat.le_refl _), ofI_bi]

theorem blockBack_sat (s : ByteArray) (k : Int) (hs : s.size ≤ 2000000) (σ : Sto) : SatCall Try.prog 4 [.str s, .int .i64 k] σ fun x σ' => x = .bool true ∧ σ' = σ := by
  refine sat_fn tab Try.func4 rfl (Nat.le_of_ble_eq_true rfl) (by decide) fun hso => ?_
  have hS := split_sat s k hs σ
  by_cases hk : k < 1 ∨ 32 < k
  · rw [splitP, if_pos hk] at hS
    repeat' (first | (apply og_ops; (first | (apply og_move; (apply op_move (tt := tt); (focus ((conv => lhs; whnf); try exact rfl)); exact rfl)) | (apply og_assign; (apply op_assign (tt := tt); (focus ((conv => lhs; whnf); try exact rfl)); exact rfl)) | (apply og_callv; (refine op_callP (tt := tt) cal10 (shown_sat _) rfl rfl rfl rfl rfl ?_)) | (apply ops_nil))) | (apply og_sat; (first | (apply sat_seq) | (apply sat_region))) | (apply pe_norm))
    refine op_callP (tt := tt) cal11 hS rfl rfl rfl rfl rfl ?_
    rcases hk with hk | hk
    · have d1 : decide (k < 1) = true := decide_eq_true hk
      repeat' (first | (apply og_ops; (first | (apply og_guard; (first | (apply ops_guard_t; exact (rfl : _ = some _); exact (rfl : _ = PV.bool _); (exact rfl)) | (apply ops_guard_f'; exact (rfl : _ = some _); exact (rfl : _ = PV.bool _); (assumption); exact ltn rfl))) | (apply og_move; (apply op_move (tt := tt); (focus ((conv => lhs; whnf); try exact rfl)); exact rfl)) | (apply og_assign; (apply op_assign (tt := tt); (focus ((conv => lhs; whnf); try exact rfl)); exact rfl)) | (apply og_bin; (apply op_bin true tab; (focus ((conv => lhs; whnf; arg 1; whnf; arg 2; whnf); try exact rfl)); (exact trivial); exact rfl)) | (apply og_pick; (apply op_pick (tt := tt); exact (rfl : _ = PV.bool _); (first | refine .inl ⟨rfl, ?_⟩ | refine .inl ⟨by assumption, ?_⟩); (focus ((conv => lhs; whnf); try exact rfl)); exact ltn rfl)) | (apply og_extract; (apply op_extract (tt := tt); (focus ((conv => lhs; whnf; arg 1; whnf; arg 2; whnf); try exact rfl)); (exact trivial); exact rfl)) | (apply ops_nil))) | (apply og_sat; (first | (apply sat_seq) | (apply sat_region) | (apply sat_cond_t; exact rfl; (exact rfl)) | (apply sat_ret))) | (apply pe_norm) | (apply pe_ret))
      (change fnPost _ _ _ _ _ _ _; apply fn_endN; (exact .inr rfl); (focus (repeat' (first | (apply rr_tmp; (focus ((conv => lhs; whnf); try exact rfl)); (exact Wk.same _)) | exact rr_nil))); exact rfl; (exact (List.append_nil _).symm); exact Nat.le_refl _; (focus (repeat' (first | exact trivial | refine ⟨?_, ?_⟩))); exact hso)
      exact ⟨rfl, rfl⟩
    · have d1 : decide (k < 1) = false := decide_eq_false (by omega)
      have d2 : decide (32 < k) = true := decide_eq_true hk
      repeat' (first | (apply og_ops; (first | (apply og_guard; (apply ops_guard_t; exact (rfl : _ = some _); exact (rfl : _ = PV.bool _); (first | exact rfl | assumption))) | (apply og_move; (apply op_move (tt := tt); (focus ((conv => lhs; whnf); try exact rfl)); exact rfl)) | (apply og_assign; (apply op_assign (tt := tt); (focus ((conv => lhs; whnf); try exact rfl)); exact rfl)) | (apply og_bin; (apply op_bin true tab; (focus ((conv => lhs; whnf; arg 1; whnf; arg 2; whnf); try exact rfl)); (exact trivial); exact rfl)) | (apply og_pick; (apply op_pick (tt := tt); exact (rfl : _ = PV.bool _); (first | refine .inl ⟨rfl, ?_⟩ | refine .inr ⟨by assumption, ?_⟩); (focus ((conv => lhs; whnf); try exact rfl)); exact ltn rfl)) | (apply og_extract; (apply op_extract (tt := tt); (focus ((conv => lhs; whnf; arg 1; whnf; arg 2; whnf); try exact rfl)); (exact trivial); exact rfl)) | (apply ops_nil))) | (apply og_sat; (first | (apply sat_seq) | (apply sat_region) | (apply sat_cond_t; exact rfl; (exact rfl)) | (apply sat_ret))) | (apply pe_norm) | (apply pe_ret))
      (change fnPost _ _ _ _ _ _ _; apply fn_endN; (exact .inr rfl); (focus (repeat' (first | (apply rr_tmp; (focus ((conv => lhs; whnf); try exact rfl)); (exact Wk.same _)) | exact rr_nil))); exact rfl; (exact (List.append_nil _).symm); exact Nat.le_refl _; (focus (repeat' (first | exact trivial | refine ⟨?_, ?_⟩))); exact hso)
      exact ⟨by rw [d2]; rfl, rfl⟩
  obtain ⟨m, rfl⟩ : ∃ m : Nat, k = m := ⟨k.toNat, by omega⟩
  have hm : 0 < m := by omega
  rw [splitP, if_neg hk, Int.toNat_natCast] at hS
  have hp := pieces_ok s hm
  generalize piecesP s m = P at hS hp
  generalize (s.size + m - 1) / m = c at hp
  obtain ⟨pl, ps, pf, pg, plt, ple⟩ := hp
  have hJ := join_sat P s.size (by omega) (by rw [pf, padI_len (by rw [bi_len]; exact pg)]; omega) σ
  rw [join_back s ⟨pl, ps, pf, pg, plt, ple⟩] at hJ
  dsimp only at hS hJ
  repeat' (first | (apply og_ops; (first | (apply og_move; (apply op_move (tt := tt); (focus ((conv => lhs; whnf); try exact rfl)); exact rfl)) | (apply og_assign; (apply op_assign (tt := tt); (focus ((conv => lhs; whnf); try exact rfl)); exact rfl)) | (apply og_callv; (refine op_callP (tt := tt) cal10 (shown_sat _) rfl rfl rfl rfl rfl ?_)) | (apply ops_nil))) | (apply og_sat; (first | (apply sat_seq) | (apply sat_region))) | (apply pe_norm))
  refine op_callP (tt := tt) cal11 hS rfl rfl rfl rfl rfl ?_
  repeat' (first | (apply og_ops; (first | (apply og_move; (apply op_move (tt := tt); (focus ((conv => lhs; whnf); try exact rfl)); exact rfl)) | (apply og_assign; (apply op_assign (tt := tt); (focus ((conv => lhs; whnf); try exact rfl)); exact rfl)) | (apply og_bin; (apply op_bin true tab; (focus ((conv => lhs; whnf; arg 1; whnf; arg 2; whnf); try exact rfl)); (exact trivial); exact rfl)) | (apply og_callb; (apply op_len tab; (focus ((conv => lhs; whnf; arg 1; whnf; arg 2; whnf); try exact rfl)); (exact trivial); exact rfl)) | (apply og_extract; (apply op_extract (tt := tt); (focus ((conv => lhs; whnf; arg 1; whnf; arg 2; whnf); try exact rfl)); (exact trivial); exact rfl)) | (apply ops_nil))) | (apply og_sat; (first | (apply sat_seq) | (apply sat_region) | (apply sat_cond_f; exact rfl; (exact rfl)) | (apply sat_skip))) | (apply pe_norm))
  refine op_callP (tt := tt) cal13 hJ rfl rfl rfl rfl rfl ?_
  have d3 : (!beqS s s) = false := by rw [beqS_iff.2 rfl]; rfl
  have d4 : (((P.map PV.str).length : Int) != (m : Int)) = false := by simp [pl]
  repeat' (first | (apply og_ops; (first | (apply og_guard; (apply ops_guard_t; exact (rfl : _ = some _); exact (rfl : _ = PV.bool _); (first | exact rfl | assumption))) | (apply og_move; (apply op_move (tt := tt); (focus ((conv => lhs; whnf); try exact rfl)); exact rfl)) | (apply og_assign; (apply op_assign (tt := tt); (focus ((conv => lhs; whnf); try exact rfl)); exact rfl)) | (apply og_bin; (apply op_bin true tab; (focus ((conv => lhs; whnf; arg 1; whnf; arg 2; whnf); try exact rfl)); (exact trivial); exact rfl)) | (apply og_pick; (apply op_pick (tt := tt); exact (rfl : _ = PV.bool _); (first | refine .inr ⟨rfl, ?_⟩ | refine .inr ⟨by assumption, ?_⟩); (focus ((conv => lhs; whnf); try exact rfl)); exact ltn rfl)) | (apply og_callb; (apply op_len tab; (focus ((conv => lhs; whnf; arg 1; whnf; arg 2; whnf); try exact rfl)); (exact trivial); exact rfl)) | (apply og_extract; (apply op_extract (tt := tt); (focus ((conv => lhs; whnf; arg 1; whnf; arg 2; whnf); try exact rfl)); (exact trivial); exact rfl)) | (apply ops_nil))) | (apply og_sat; (first | (apply sat_seq) | (apply sat_region) | (apply sat_cond_f; exact rfl; (assumption)) | (apply sat_skip) | (apply sat_block))) | (apply pe_norm))
  refine sat_loopW (fun i : Nat => [(0, .str s), (1, .int .i64 m), (5, .bool true), (6, .sl .sh 1 (P.map PV.str)), (10, .int .i64 i)]) (fun _ => σ) (fun i => i ≤ m) (fun i => m - i) 0 (Nat.zero_le _) ?_ rfl ?_
  · (repeat' (first | exact trivial | exact Wk.same _ | refine ⟨?_, ?_⟩))
  rintro i hi
  have q0 : (P.getD (Int.toNat 0) default).size = c := ps 0 hm
  have hPl : (P.map PV.str).length = m := by rw [List.length_map, pl]
  by_cases him : i < m
  · have e1 : decide ((i : Int) < (m : Int)) = true := decide_eq_true (by omega)
    have e2 : (((P.getD ((i : Nat) : Int).toNat default).size : Int) != ((P.getD (Int.toNat 0) default).size : Int)) = false := by
      rw [q0, Int.toNat_natCast, ps i him]; simp
    repeat' (first | (apply og_ops; (first | (apply og_move; (apply op_move (tt := tt); (focus ((conv => lhs; whnf); try exact rfl)); exact rfl)) | (apply og_assign; (apply op_assign (tt := tt); (focus ((conv => lhs; whnf); try exact rfl)); exact rfl)) | (apply og_bin; (apply op_bin true tab; (focus ((conv => lhs; whnf; arg 1; whnf; arg 2; whnf); try exact rfl)); (first | exact trivial | (simp only [InR]; omega)); exact rfl)) | (apply ops_nil))) | (apply og_sat; (first | (apply sat_seq) | (apply sat_region) | (apply sat_cond_t; exact rfl; (assumption)) | (apply sat_cond_f; exact rfl; (assumption)) | (apply sat_skip) | (apply sat_block) | (apply sat_drawC (k := 9); exact mixed; decide +kernel; decide +kernel))) | (apply pe_norm) | (apply pb_norm) | (apply og_dd; (first | (apply dd_lk; (first | (apply lg_indexAddr; exact lk_indexMap (tI := 3) _ tab rfl (by (focus ((conv => lhs; whnf); try exact rfl))) (by (focus ((conv => lhs; whnf); try exact rfl))) rfl (by (omega)) (by (omega)) (by (focus ((conv => lhs; whnf); try exact rfl)))) | (apply lg_move; (apply lk_move (tt := tt); (focus ((conv => lhs; whnf); try exact rfl)))) | (apply lg_load; (apply lk_load tab; (focus ((conv => lhs; whnf; arg 1; whnf; arg 2; whnf); try skip)); (exact trivial))) | (apply lg_callb; (apply lk_len tab; (focus ((conv => lhs; whnf; arg 1; whnf; arg 2; whnf); try exact rfl)); (exact trivial)))); exact rfl; exact rfl) | (apply dd_nil))))
    refine ⟨i + 1, by omega, by omega, ?_, rfl⟩
    (repeat' (first | exact trivial | exact Wk.same _ | refine ⟨?_, ?_⟩))
  · have e1 : decide ((i : Int) < (m : Int)) = false := decide_eq_false (by omega)
    have qm : ((P.getD (Int.toNat 0) default).size : Int) * (m : Int) = ((c * m : Nat) : Int) := by rw [q0, Int.natCast_mul]
    have g1 : decide ((s.size : Int) ≤ ((P.getD (Int.toNat 0) default).size : Int) * (m : Int)) = true := decide_eq_true (by rw [qm]; omega)
    rcases Nat.eq_zero_or_pos c with hc | hc
    · have g2 : (((P.getD (Int.toNat 0) default).size : Int) == 0) = true := by rw [q0, hc]; rfl
      repeat' (first | (apply og_ops; (first | (apply og_guard; (first | (apply ops_guard_t; exact (rfl : _ = some _); exact (rfl : _ = PV.bool _); (first | exact rfl | assumption)) | (apply ops_guard_f'; exact (rfl : _ = some _); exact (rfl : _ = PV.bool _); (assumption); exact ltn rfl))) | (apply og_move; (apply op_move (tt := tt); (focus ((conv => lhs; whnf); try exact rfl)); exact rfl)) | (apply og_assign; (apply op_assign (tt := tt); (focus ((conv => lhs; whnf); try exact rfl)); exact rfl)) | (apply og_bin; (apply op_bin true tab; (focus ((conv => lhs; whnf; arg 1; whnf; arg 2; whnf); try exact rfl)); (first | exact trivial | (simp only [InR]; omega)); exact rfl)) | (apply og_pick; (apply op_pick (tt := tt); exact (rfl : _ = PV.bool _); (first | refine .inl ⟨rfl, ?_⟩ | refine .inl ⟨by assumption, ?_⟩); (focus ((conv => lhs; whnf); try exact rfl)); exact ltn rfl)) | (apply og_load; (apply op_load tab; (focus ((conv => lhs; whnf; arg 1; whnf; arg 2; whnf); try skip)); (exact trivial); exact rfl)) | (apply og_callb; (apply op_len tab; (focus ((conv => lhs; whnf; arg 1; whnf; arg 2; whnf); try exact rfl)); (exact trivial); exact rfl)) | (apply og_indexAddr; (refine op_indexMap (tI := 3) _ tab rfl (by (focus ((conv => lhs; whnf); try exact rfl))) (by (focus ((conv => lhs; whnf); try exact rfl))) rfl (by (omega)) (by (omega)) (by (focus ((conv => lhs; whnf); try exact rfl))) (ltn rfl) ?_)) | (apply ops_nil))) | (apply og_sat; (first | (apply sat_seq) | (apply sat_region) | (apply sat_cond_f; exact rfl; (assumption)) | (apply sat_ret) | (apply sat_exit))) | (apply pe_norm) | (apply pe_exit) | (apply pb_same))
      (change fnPost _ _ _ _ _ _ _; apply fn_endN; (exact .inr rfl); (focus (repeat' (first | (apply rr_tmp; (focus ((conv => lhs; whnf); try exact rfl)); (exact Wk.same _)) | exact rr_nil))); exact rfl; (exact (List.append_nil _).symm); exact Nat.le_refl _; (focus (repeat' (first | exact trivial | refine ⟨?_, ?_⟩))); exact hso)
      first
        | exact ⟨rfl, rfl⟩
        | exact ⟨by rw [g2]; rfl, rfl⟩
        | exact ⟨by rw [g3]; rfl, rfl⟩
    · have g2 : (((P.getD (Int.toNat 0) default).size : Int) == 0) = false := by rw [q0]; simp; omega
      have hcN : (c - 1) * m ≤ c * m := Nat.mul_le_mul_right m (by omega)
      have hcc : c * 1 ≤ c * m := Nat.mul_le_mul_left c hm
      have g3 : decide (IntKind.i64.wrap ((((P.getD (Int.toNat 0) default).size : Int) - 1) * (m : Int)) < (s.size : Int)) = true := decide_eq_true (by
        rw [q0, show ((c : Int) - 1) = ((c - 1 : Nat) : Int) by omega, ← Int.natCast_mul, wrap_in (by simp only [InR]; omega)]
        omega)
      repeat' (first | (apply og_ops; (first | (apply og_guard; (apply ops_guard_t; exact (rfl : _ = some _); exact (rfl : _ = PV.bool _); (first | exact rfl | assumption))) | (apply og_move; (apply op_move (tt := tt); (focus ((conv => lhs; whnf); try exact rfl)); exact rfl)) | (apply og_assign; (apply op_assign (tt := tt); (focus ((conv => lhs; whnf); try exact rfl)); exact rfl)) | (apply og_bin; (first | (apply op_bin true tab; (focus ((conv => lhs; whnf; arg 1; whnf; arg 2; whnf); try exact rfl)); (first | exact trivial | (simp only [InR]; omega)); exact rfl) | (apply op_bin false tab; (focus ((conv => lhs; whnf; arg 1; whnf; arg 2; whnf); try exact rfl)); (exact trivial); exact rfl))) | (apply og_pick; (apply op_pick (tt := tt); exact (rfl : _ = PV.bool _); (first | refine .inl ⟨rfl, ?_⟩ | refine .inl ⟨by assumption, ?_⟩ | refine .inr ⟨by assumption, ?_⟩); (focus ((conv => lhs; whnf); try exact rfl)); exact ltn rfl)) | (apply og_load; (apply op_load tab; (focus ((conv => lhs; whnf; arg 1; whnf; arg 2; whnf); try skip)); (exact trivial); exact rfl)) | (apply og_callb; (apply op_len tab; (focus ((conv => lhs; whnf; arg 1; whnf; arg 2; whnf); try exact rfl)); (exact trivial); exact rfl)) | (apply og_indexAddr; (refine op_indexMap (tI := 3) _ tab rfl (by (focus ((conv => lhs; whnf); try exact rfl))) (by (focus ((conv => lhs; whnf); try exact rfl))) rfl (by (omega)) (by (omega)) (by (focus ((conv => lhs; whnf); try exact rfl))) (ltn rfl) ?_)) | (apply ops_nil))) | (apply og_sat; (first | (apply sat_seq) | (apply sat_region) | (apply sat_cond_f; exact rfl; (assumption)) | (apply sat_ret) | (apply sat_exit))) | (apply pe_norm) | (apply pe_exit) | (apply pb_same))
      (change fnPost _ _ _ _ _ _ _; apply fn_endN; (exact .inr rfl); (focus (repeat' (first | (apply rr_tmp; (focus ((conv => lhs; whnf); try exact rfl)); (exact Wk.same _)) | exact rr_nil))); exact rfl; (exact (List.append_nil _).symm); exact Nat.le_refl _; (focus (repeat' (first | exact trivial | refine ⟨?_, ?_⟩))); exact hso)
      first
        | exact ⟨rfl, rfl⟩
        | exact ⟨by rw [g2]; rfl, rfl⟩
        | exact ⟨by rw [g3]; rfl, rfl⟩

theorem blockBackUpto_law (c0 : List PV) (h0 : HasC .str c0) (c1 : List PV) (h1 : HasC (.int .i64) c1) (hw : (mkV .str c0).wt + (mkV (.int .i64) c1).wt ≤ 1048576) :
    SatCall Try.prog 4 [mkV .str c0, mkV (.int .i64) c1] [] fun r _ => r = .bool true := by
  obtain ⟨s, _, rfl⟩ := h0
  obtain ⟨k, _, rfl⟩ := h1
  have hs : s.size ≤ 2000000 := by simp only [mkV, PV.wt] at hw; omega
  exact (blockBack_sat s k hs []).mono fun _ _ h => h.1

end Go.Proofs.Ytecleclpakiocaa.Pv
