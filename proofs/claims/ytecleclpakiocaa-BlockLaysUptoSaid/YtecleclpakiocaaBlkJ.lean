/- BlockTwice. -/
import Derived.Test.YtecleclpakiocaaBlkH
namespace Go.Proofs.Ytecleclpakiocaa.Pv
open Go
set_option linter.unusedVariables false
set_option linter.unusedSimpArgs false
set_option maxRecDepth 100000

theorem xorI_twice : ∀ (a b : List Int), a.length = b.length → (∀ x ∈ a, 0 ≤ x ∧ x ≤ 255) → xorI (xorI a b) b = a
  | [], _, _, _ => by simp [xorI]
  | x :: a, [], h, _ => by simp at h
  | x :: a, y :: b, h, hb => by
    have := xorI_twice a b (by simpa using h) (fun z hz => hb z (List.mem_cons_of_mem _ hz))
    simp only [xorI, List.zipWith_cons_cons] at this ⊢
    rw [this, xorB_twice (hb x List.mem_cons_self)]
theorem xorI_comm : ∀ (a b : List Int), xorI a b = xorI b a
  | [], b => by cases b <;> simp [xorI]
  | x :: a, [] => by simp [xorI]
  | x :: a, y :: b => by
    have := xorI_comm a b
    simp only [xorI, List.zipWith_cons_cons] at this ⊢
    rw [this, xorB_comm]
theorem xorI_self : ∀ (a : List Int), xorI a a = List.replicate a.length 0
  | [] => rfl
  | x :: a => by
    have := xorI_self a
    simp only [xorI, List.zipWith_cons_cons, List.length_cons, List.replicate_succ] at this ⊢
    rw [this, xorB_self]

theorem xorP_size {s u : ByteArray} (h : s.size = u.size) : (xorP s u).1.size = s.size := by
  rw [xorP, if_pos h]; dsimp only; rw [ofI_size, xorI_len (by rw [bi_len, bi_len, h]), bi_len]
theorem bi_xorP {s u : ByteArray} (h : s.size = u.size) : bi (xorP s u).1 = xorI (bi s) (bi u) := by
  rw [xorP, if_pos h]; exact bi_ofI fun x hx => xorI_byte hx

theorem blockTwice_sat (s u : ByteArray) (hs : s.size ≤ 2000000) (hu : u.size ≤ 2000000) (σ : Sto) : SatCall Try.prog 7 [.str s, .str u] σ fun x σ' => x = .bool true ∧ σ' = σ := by
  refine sat_fn tab Try.func7 rfl (Nat.le_of_ble_eq_true rfl) (by decide) fun hso => ?_
  by_cases h0 : s.size = u.size
  · have c0 : ((s.size : Int) != (u.size : Int)) = false := by simp [h0]
    have z1 := xorP_size h0
    have z2 : (xorP s u).1.size ≤ 2000000 := by omega
    have z3 := xorP_size (s := s) (u := s) rfl
    have b1 := bi_xorP h0
    have e0 : (xorP s u).2 = 0 := by rw [xorP, if_pos h0]
    have e1 : xorP (xorP s u).1 u = (s, 0) := by
      rw [xorP, if_pos (by omega), b1, xorI_twice _ _ (by rw [bi_len, bi_len, h0]) (fun x hx => bi_mem hx), ofI_bi]
    have e2 : xorP u s = ((xorP s u).1, 0) := by
      rw [xorP, xorP, if_pos h0.symm, if_pos h0, xorI_comm]
    have e3 : xorP s s = (ofI (List.replicate s.size 0), 0) := by rw [xorP, if_pos rfl, xorI_self, bi_len]
    repeat' (first | (apply og_ops; (first | (apply og_move; (apply op_move (tt := tt); (focus ((conv => lhs; whnf); try exact rfl)); exact rfl)) | (apply og_assign; (apply op_assign (tt := tt); (focus ((conv => lhs; whnf); try exact rfl)); exact rfl)) | (apply og_callv; (first | (refine op_callP (tt := tt) cal10 (shown_sat _) rfl rfl rfl rfl rfl ?_) | (refine op_callP (tt := tt) cal18 (xor_sat _ _ ?_ _) rfl rfl rfl rfl rfl ?_; (omega)))) | (apply og_bin; (apply op_bin true tab; (focus ((conv => lhs; whnf; arg 1; whnf; arg 2; whnf); try exact rfl)); (exact trivial); exact rfl)) | (apply og_callb; (apply op_len tab; (focus ((conv => lhs; whnf; arg 1; whnf; arg 2; whnf); try exact rfl)); (exact trivial); exact rfl)) | (apply og_extract; (apply op_extract (tt := tt); (focus ((conv => lhs; whnf; arg 1; whnf; arg 2; whnf); try exact rfl)); (exact trivial); exact rfl)) | (apply ops_nil))) | (apply og_sat; (first | (apply sat_seq) | (apply sat_region) | (apply sat_cond_f; exact rfl; (assumption)) | (apply sat_skip) | (apply sat_block))) | (apply pe_norm))
    refine sat_loopW (fun i : Nat => [(0, .str s), (1, .str u), (5, .bool true), (6, .str (xorP s u).1), (7, .int .i64 (xorP s u).2), (8, .str (xorP (xorP s u).1 u).1), (9, .int .i64 (xorP (xorP s u).1 u).2), (10, .str (xorP u s).1), (11, .int .i64 (xorP u s).2), (12, .str (xorP s s).1), (13, .int .i64 (xorP s s).2), (14, .int .i64 i)]) (fun _ => σ) (fun i => i ≤ s.size) (fun i => s.size - i) 0 (Nat.zero_le _) ?_ rfl ?_
    · (repeat' (first | exact trivial | exact Wk.same _ | refine ⟨?_, ?_⟩))
    rintro i hi
    by_cases hil : i < s.size
    · have d1 : decide ((i : Int) < ((xorP s s).1.size : Int)) = true := decide_eq_true (by omega)
      have d2 : (bt (xorP s s).1 ((i : Nat) : Int) != 0) = false := by
        rw [bt_bi, Int.toNat_natCast, bi_xorP rfl, xorI_self]
        simp [List.getD, bi_len, hil]
      repeat' (first | (apply og_ops; (first | (apply og_move; (apply op_move (tt := tt); (focus ((conv => lhs; whnf); try exact rfl)); exact rfl)) | (apply og_assign; (apply op_assign (tt := tt); (focus ((conv => lhs; whnf); try exact rfl)); exact rfl)) | (apply og_bin; (apply op_bin true tab; (focus ((conv => lhs; whnf; arg 1; whnf; arg 2; whnf); try exact rfl)); (first | exact trivial | (simp only [InR]; omega)); exact rfl)) | (apply og_callb; (apply op_len tab; (focus ((conv => lhs; whnf; arg 1; whnf; arg 2; whnf); try exact rfl)); (exact trivial); exact rfl)) | (apply og_index; (apply op_index tab (tI := 3); (focus ((conv => lhs; whnf; arg 1; whnf; arg 2; whnf); try exact rfl)); (omega); exact rfl)) | (apply ops_nil))) | (apply og_sat; (first | (apply sat_seq) | (apply sat_region) | (apply sat_cond_t; exact rfl; (assumption)) | (apply sat_cond_f; exact rfl; (assumption)) | (apply sat_skip) | (apply sat_block))) | (apply pe_norm) | (apply pb_norm))
      refine ⟨i + 1, by omega, by omega, ?_, rfl⟩
      (repeat' (first | exact trivial | exact Wk.same _ | refine ⟨?_, ?_⟩))
    · have d1 : decide ((i : Int) < ((xorP s s).1.size : Int)) = false := decide_eq_false (by omega)
      have g1 : beqS (xorP (xorP s u).1 u).1 s = true := by rw [e1]; exact beqS_iff.2 rfl
      have g2 : beqS (xorP u s).1 (xorP s u).1 = true := by rw [e2]; exact beqS_iff.2 rfl
      have g3 : (((xorP s s).1.size : Int) == (s.size : Int)) = true := by rw [z3]; simp
      have g4 : ((xorP s u).2 == 0) = true := by rw [e0]; rfl
      have g5 : ((xorP (xorP s u).1 u).2 == 0) = true := by rw [e1]; rfl
      have g6 : ((xorP u s).2 == 0) = true := by rw [e2]; rfl
      have g7 : ((xorP s s).2 == 0) = true := by rw [e3]; rfl
      repeat' (first | (apply og_ops; (first | (apply og_guard; (apply ops_guard_t; exact (rfl : _ = some _); exact (rfl : _ = PV.bool _); (first | exact rfl | assumption))) | (apply og_move; (apply op_move (tt := tt); (focus ((conv => lhs; whnf); try exact rfl)); exact rfl)) | (apply og_assign; (apply op_assign (tt := tt); (focus ((conv => lhs; whnf); try exact rfl)); exact rfl)) | (apply og_bin; (apply op_bin true tab; (focus ((conv => lhs; whnf; arg 1; whnf; arg 2; whnf); try exact rfl)); (exact trivial); exact rfl)) | (apply og_pick; (apply op_pick (tt := tt); exact (rfl : _ = PV.bool _); (first | refine .inl ⟨rfl, ?_⟩ | refine .inl ⟨by assumption, ?_⟩); (focus ((conv => lhs; whnf); try exact rfl)); exact ltn rfl)) | (apply og_callb; (apply op_len tab; (focus ((conv => lhs; whnf; arg 1; whnf; arg 2; whnf); try exact rfl)); (exact trivial); exact rfl)) | (apply ops_nil))) | (apply og_sat; (first | (apply sat_seq) | (apply sat_region) | (apply sat_cond_f; exact rfl; (assumption)) | (apply sat_ret) | (apply sat_exit))) | (apply pe_norm) | (apply pe_exit) | (apply pb_same))
      (change fnPost _ _ _ _ _ _ _; apply fn_endN; (exact .inr rfl); (focus (repeat' (first | (apply rr_tmp; (focus ((conv => lhs; whnf); try exact rfl)); (exact Wk.same _)) | exact rr_nil))); exact rfl; (exact (List.append_nil _).symm); exact Nat.le_refl _; (focus (repeat' (first | exact trivial | refine ⟨?_, ?_⟩))); exact hso)
      first
        | exact ⟨rfl, rfl⟩
        | exact ⟨by rw [g7]; rfl, rfl⟩
  · have c0 : ((s.size : Int) != (u.size : Int)) = true := by simp; omega
    have e1 : (xorP s u).2 = 3 := by rw [xorP, if_neg h0]
    repeat' (first | (apply og_ops; (first | (apply og_guard; (apply ops_guard_t; exact (rfl : _ = some _); exact (rfl : _ = PV.bool _); (exact rfl))) | (apply og_move; (apply op_move (tt := tt); (focus ((conv => lhs; whnf); try exact rfl)); exact rfl)) | (apply og_assign; (apply op_assign (tt := tt); (focus ((conv => lhs; whnf); try exact rfl)); exact rfl)) | (apply og_callv; (first | (refine op_callP (tt := tt) cal10 (shown_sat _) rfl rfl rfl rfl rfl ?_) | (refine op_callP (tt := tt) cal18 (xor_sat _ _ ?_ _) rfl rfl rfl rfl rfl ?_; (omega)))) | (apply og_bin; (apply op_bin true tab; (focus ((conv => lhs; whnf; arg 1; whnf; arg 2; whnf); try exact rfl)); (exact trivial); exact rfl)) | (apply og_pick; (apply op_pick (tt := tt); exact (rfl : _ = PV.bool _); (refine .inl ⟨rfl, ?_⟩); (focus ((conv => lhs; whnf); try exact rfl)); exact ltn rfl)) | (apply og_callb; (apply op_len tab; (focus ((conv => lhs; whnf; arg 1; whnf; arg 2; whnf); try exact rfl)); (exact trivial); exact rfl)) | (apply og_extract; (apply op_extract (tt := tt); (focus ((conv => lhs; whnf; arg 1; whnf; arg 2; whnf); try exact rfl)); (exact trivial); exact rfl)) | (apply ops_nil))) | (apply og_sat; (first | (apply sat_seq) | (apply sat_region) | (apply sat_cond_t; exact rfl; (assumption)) | (apply sat_ret))) | (apply pe_norm) | (apply pe_ret))
    (change fnPost _ _ _ _ _ _ _; apply fn_endN; (exact .inr rfl); (focus (repeat' (first | (apply rr_tmp; (focus ((conv => lhs; whnf); try exact rfl)); (exact Wk.same _)) | exact rr_nil))); exact rfl; (exact (List.append_nil _).symm); exact Nat.le_refl _; (focus (repeat' (first | exact trivial | refine ⟨?_, ?_⟩))); exact hso)
    exact ⟨by rw [e1]; rfl, rfl⟩

theorem blockTwiceUpto_law (c0 : List PV) (h0 : HasC .str c0) (c1 : List PV) (h1 : HasC .str c1) (hw : (mkV .str c0).wt + (mkV .str c1).wt ≤ 1048576) :
    SatCall Try.prog 7 [mkV .str c0, mkV .str c1] [] fun r _ => r = .bool true := by
  obtain ⟨s, _, rfl⟩ := h0
  obtain ⟨u, _, rfl⟩ := h1
  simp only [mkV, PV.wt] at hw
  exact (blockTwice_sat s u (by omega) (by omega) []).mono fun _ _ h => h.1

end Go.Proofs.Ytecleclpakiocaa.Pv
