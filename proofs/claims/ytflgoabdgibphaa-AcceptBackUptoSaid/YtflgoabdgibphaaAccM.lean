/- An acceptor's bytes, by the document; votes and acceptors taken off bytes. -/
import Derived.Test.YtflgoabdgibphaaAccL
namespace Go.Proofs.Ytflgoabdgibphaa.Pv
open Go
set_option linter.unusedVariables false
set_option linter.unusedSimpArgs false
set_option maxRecDepth 100000

theorem app_assocB (a b c : ByteArray) : a ++ b ++ c = a ++ (b ++ c) := ByteArray.append_assoc

set_option maxHeartbeats 2000000 in
theorem refBytes_sat (a : Acp) (ha : AcOK a) (σ : Sto) : SatCall Try.prog 19 [acp a] σ fun x σ' => x = (if rightP a then .tup [.str (accB a), .int .i64 0] else .tup [.str ⟨#[]⟩, .int .i64 1]) ∧ σ' = σ := by
  refine sat_fn tab Try.func19 rfl (Nat.le_of_ble_eq_true rfl) (by decide) fun hso => sat_base ?_
  have hr := refRight_sat a ha.len
  have hl := ha.len
  by_cases hR : rightP a = true
  · rw [hR] at hr
    rw [if_pos hR]
    have n1 := refNumZ_sat a.1 ha.p0 ha.p1
    have n2 := refNum_sat (a.2.map vt).length (by rw [List.length_map]; omega)
    rw [List.length_map] at n2
    have n2 : ∀ σ, SatCall Try.prog 34 [.int .u64 ((a.2.map vt).length : Nat)] σ fun r σ' => r = .str (numB a.2.length) ∧ σ' = σ := by rw [List.length_map]; exact n2
    have s1 := numB_size (v := a.1.toNat) (by have := ha.p0; have := ha.p1; omega)
    have s2 := numB_size (v := a.2.length) (by omega)
    repeat' (first | (apply og_ops; (first | (apply og_move; (apply op_move (tt := tt); (focus ((conv => lhs; whnf); try exact rfl)); exact rfl)) | (apply og_assign; (apply op_assign (tt := tt); (focus ((conv => lhs; whnf); try exact rfl)); exact rfl)) | (apply og_callv; (first | (refine op_callP (tt := tt) cal11 (hr _) rfl rfl rfl rfl rfl ?_) | (refine op_callP (tt := tt) cal34 (n2 _) rfl rfl rfl rfl rfl ?_))) | (apply og_bin; (apply op_bin true tab; (focus ((conv => lhs; whnf; arg 1; whnf; arg 2; whnf); try exact rfl)); (omega); exact rfl)) | (apply og_load; (apply op_lk; (apply lk_loadX tab; exact rfl; exact rfl; exact rfl; (focus ((conv => lhs; whnf; arg 1; whnf; arg 2; whnf); try skip)); (exact Nat.le_of_ble_eq_true rfl)); (intro c h; cases h); exact rfl)) | (apply og_un; (apply op_un (tt := tt) true; (focus ((conv => lhs; whnf; arg 1; whnf; arg 2; whnf); try exact rfl)); (exact trivial); exact rfl)) | (apply og_box; (apply op_boxX (tt := tt); (focus ((conv => lhs; whnf); try exact rfl)); exact rfl; (exact (rfl : _ = 0)); exact rfl)) | (apply ops_nil))) | (apply og_sat; (first | (apply sat_seq) | (apply sat_region) | (apply sat_cond_f; exact rfl; (exact rfl)) | (apply sat_skip) | (apply sat_block) | (apply sat_drawC (k := 7); exact mixed; decide +kernel; decide +kernel))) | (apply pe_norm) | (apply og_dd; (first | (refine dd_cons (step_call (tt := tt) cal34 (n1 _) rfl rfl rfl rfl rfl) ?_) | (apply dd_lk; (first | (apply lg_conv; (apply lk_conv true tab; (focus ((conv => lhs; whnf; arg 1; whnf; arg 2; whnf); try exact rfl)); (simp only [decide_eq_true_eq, decide_eq_false_iff_not, List.length_map, InR, ne_eq] at *; omega))) | (apply lg_fieldAddr; (apply lk_fieldAddrB tab; exact rfl; (focus ((conv => lhs; whnf); try exact rfl)); exact rfl; (first | exact (rfl : _ = 0) | exact (rfl : _ = 1)))) | (apply lg_load; (apply lk_loadX tab; exact rfl; exact rfl; exact rfl; (focus ((conv => lhs; whnf; arg 1; whnf; arg 2; whnf); try skip)); (exact trivial))) | (apply lg_callb; (apply lk_len tab; (focus ((conv => lhs; whnf; arg 1; whnf; arg 2; whnf); try exact rfl)); (exact trivial)))); exact rfl; exact rfl) | (apply dd_nil))))
    clear n1 n2 hr s1 s2
    refine sat_loopD (fun i : Nat => [(1, .ptr (σ.length + 0) 0), (5, .str (accS a i)), (6, .int .i64 i)]) (fun i => σ ++ [.cells [.int .u64 a.1, .sl .sh 3 (a.2.map vt)]]) (fun i => i ≤ a.2.length) (fun i => a.2.length - i) 0 (Nat.zero_le _) ?_ rfl ?_
    · (repeat' (first | exact trivial | exact Wk.same _ | refine ⟨?_, ?_⟩))
    rintro i hi
    obtain ⟨z1, z2⟩ := accS_size ha hR i hi
    rcases Nat.lt_or_ge i a.2.length with hlt | hge
    · have c1 : decide ((i : Int) < (a.2.length : Int)) = true := decide_eq_true (by omega)
      have c1m : decide ((i : Int) < ((a.2.map vt).length : Int)) = true := by rw [List.length_map]; exact c1
      have hm := (okAt_iff.1 (List.all_eq_true.1 hR i (List.mem_range.2 hlt))).1
      have hb := ha.b0 _ (getD_memL (xs := a.2) (i := i) hlt)
      have hvs := voteB_size hm hb.2
      have hst : accS a (i + 1) = accS a i ++ numB (a.2.getD ((i : Nat) : Int).toNat default).1.toNat ++ numB (a.2.getD ((i : Nat) : Int).toNat default).2.1.toNat ++ textB (a.2.getD ((i : Nat) : Int).toNat default).2.2 := by
        rw [accS_step hlt, Int.toNat_natCast, voteB]; simp only [app_assocB]
      have hm' := of_decide_eq_true hm
      have n1 := refNumZ_sat (a.2.getD ((i : Nat) : Int).toNat default).1 (by rw [Int.toNat_natCast]; omega) (by rw [Int.toNat_natCast]; omega)
      have n2 := refNumZ_sat (a.2.getD ((i : Nat) : Int).toNat default).2.1 (by rw [Int.toNat_natCast]; omega) (by rw [Int.toNat_natCast]; omega)
      have n3 := refText_sat (a.2.getD ((i : Nat) : Int).toNat default).2.2 (by rw [Int.toNat_natCast]; omega)
      have q1 : (1 ≤ (a.2.getD ((i : Nat) : Int).toNat default).1 ∧ (a.2.getD ((i : Nat) : Int).toNat default).1 ≤ 65536) := by rw [Int.toNat_natCast]; omega
      have s1 := numB_size (v := (a.2.getD ((i : Nat) : Int).toNat default).1.toNat) (by omega)
      have s2 := numB_size (v := (a.2.getD ((i : Nat) : Int).toNat default).2.1.toNat) (by rw [Int.toNat_natCast]; omega)
      have s3 : (textB (a.2.getD ((i : Nat) : Int).toNat default).2.2).size ≤ 65566 := by rw [Int.toNat_natCast]; simp only [voteB, size_app] at hvs; omega
      have s4 := size_app (accS a i) (numB (a.2.getD ((i : Nat) : Int).toNat default).1.toNat)
      have s5 := size_app (accS a i ++ numB (a.2.getD ((i : Nat) : Int).toNat default).1.toNat) (numB (a.2.getD ((i : Nat) : Int).toNat default).2.1.toNat)
      repeat' (first | (apply og_ops; (first | (apply og_move; (apply op_move (tt := tt); (focus ((conv => lhs; whnf); try exact rfl)); exact rfl)) | (apply og_assign; (apply op_assign (tt := tt); (focus ((conv => lhs; whnf); try exact rfl)); exact rfl)) | (apply og_bin; (apply op_bin true tab; (focus ((conv => lhs; whnf; arg 1; whnf; arg 2; whnf); try exact rfl)); (first | exact trivial | omega | (simp only [InR]; omega)); exact rfl)) | (apply og_load; (first | (apply op_lk; (apply lk_loadX tab; exact rfl; exact rfl; exact rfl; (focus ((conv => lhs; whnf; arg 1; whnf; arg 2; whnf); try skip)); (exact trivial)); (intro c h; cases h); exact rfl) | (apply op_load tab; (focus ((conv => lhs; whnf; arg 1; whnf; arg 2; whnf); try skip)); (exact Nat.le_of_ble_eq_true rfl); exact rfl))) | (apply og_callb; (apply op_len tab; (focus ((conv => lhs; whnf; arg 1; whnf; arg 2; whnf); try exact rfl)); (exact trivial); exact rfl)) | (apply og_indexAddr; (refine op_indexMap (tI := 3) _ tab rfl (by (focus ((conv => lhs; whnf); try exact rfl))) (by (focus ((conv => lhs; whnf); try exact rfl))) rfl (by (omega)) (by (omega)) (by (focus ((conv => lhs; whnf); try exact rfl))) (ltn rfl) ?_)) | (apply og_fieldAddr; (apply op_lk; (apply lk_fieldAddrB tab; exact rfl; (focus ((conv => lhs; whnf); try exact rfl)); exact rfl; (exact (rfl : _ = 1))); (intro c h; cases h); exact rfl)) | (apply og_store; (apply op_storeX tab; exact rfl; exact rfl; exact rfl; exact rfl; exact rfl; exact rfl; exact rfl; exact rfl)) | (apply og_alloc; (apply op_allocX tab; exact rfl; exact rfl; (exact (rfl : _ = 1)); exact rfl)) | (apply ops_nil))) | (apply og_sat; (first | (apply sat_seq) | (apply sat_region) | (apply sat_cond_t; exact rfl; (assumption)) | (apply sat_skip) | (apply sat_block) | (apply sat_drawC (k := 13); exact mixed; decide +kernel; decide +kernel))) | (apply pe_norm) | (apply pb_norm) | (apply og_dd; (first | (refine dd_cons (step_call (tt := tt) cal34 (n1 _) rfl rfl rfl rfl rfl) ?_) | (refine dd_cons (step_call (tt := tt) cal34 (n2 _) rfl rfl rfl rfl rfl) ?_) | (refine dd_cons (step_call (tt := tt) cal35 (n3 _) rfl rfl rfl rfl rfl) ?_) | (apply dd_lk; (first | (apply lg_move; (apply lk_move (tt := tt); (focus ((conv => lhs; whnf); try exact rfl)))) | (apply lg_bin; (apply lk_bin true tab; (focus ((conv => lhs; whnf; arg 1; whnf; arg 2; whnf); try exact rfl)); (omega))) | (apply lg_conv; (apply lk_conv true tab; (focus ((conv => lhs; whnf; arg 1; whnf; arg 2; whnf); try exact rfl)); (simp only [InR]; omega))) | (apply lg_fieldAddr; (apply lk_fieldAddrB tab; exact rfl; (focus ((conv => lhs; whnf); try exact rfl)); exact rfl; (first | exact (rfl : _ = 0) | exact (rfl : _ = 1) | exact (rfl : _ = 2)))) | (apply lg_load; (apply lk_loadX tab; exact rfl; exact rfl; exact rfl; (focus ((conv => lhs; whnf; arg 1; whnf; arg 2; whnf); try skip)); (exact trivial)))); exact rfl; exact rfl) | (apply dd_nil))))
      refine ⟨i + 1, by omega, by omega, ?_, ?_⟩
      · rw [hst]
        (repeat' (first | exact trivial | exact Wk.same _ | refine ⟨?_, ?_⟩))
      · exact loopD_end 1 rfl (by simp) (stoOK_app hso (by simp [Ent.lt, ltAll, PV.lt, PV.cells])) (envL_lt (by simp [PV.lt]))
    · have c1 : decide ((i : Int) < (a.2.length : Int)) = false := decide_eq_false (by omega)
      have c1m : decide ((i : Int) < ((a.2.map vt).length : Int)) = false := by rw [List.length_map]; exact c1
      have hii : i = a.2.length := by omega
      subst hii
      repeat' (first | (apply og_ops; (first | (apply og_move; (apply op_move (tt := tt); (focus ((conv => lhs; whnf); try exact rfl)); exact rfl)) | (apply og_assign; (apply op_assign (tt := tt); (focus ((conv => lhs; whnf); try exact rfl)); exact rfl)) | (apply og_bin; (apply op_bin true tab; (focus ((conv => lhs; whnf; arg 1; whnf; arg 2; whnf); try exact rfl)); (exact trivial); exact rfl)) | (apply og_load; (apply op_lk; (apply lk_loadX tab; exact rfl; exact rfl; exact rfl; (focus ((conv => lhs; whnf; arg 1; whnf; arg 2; whnf); try skip)); (exact trivial)); (intro c h; cases h); exact rfl)) | (apply og_callb; (apply op_len tab; (focus ((conv => lhs; whnf; arg 1; whnf; arg 2; whnf); try exact rfl)); (exact trivial); exact rfl)) | (apply og_fieldAddr; (apply op_lk; (apply lk_fieldAddrB tab; exact rfl; (focus ((conv => lhs; whnf); try exact rfl)); exact rfl; (exact (rfl : _ = 1))); (intro c h; cases h); exact rfl)) | (apply ops_nil))) | (apply og_sat; (first | (apply sat_seq) | (apply sat_region) | (apply sat_cond_f; exact rfl; (assumption)) | (apply sat_ret) | (apply sat_exit))) | (apply pe_norm) | (apply pe_exit) | (apply pb_same))
      (change fnPost _ _ _ _ _ _ _; apply fn_endN; (exact .inr rfl); (focus (repeat' (first | (apply rr_tmp; (focus ((conv => lhs; whnf); try exact rfl)); (exact Wk.same _)) | exact rr_nil))); exact rfl; (exact rfl); exact Nat.le_refl _; (focus (repeat' (first | exact trivial | refine ⟨?_, ?_⟩))); exact hso)
      exact ⟨rfl, rfl⟩
  · have hR' : rightP a = false := by simpa using hR
    rw [hR'] at hr
    rw [if_neg hR]
    repeat' (first | (apply og_ops; (first | (apply og_move; (apply op_move (tt := tt); (focus ((conv => lhs; whnf); try exact rfl)); exact rfl)) | (apply og_assign; (apply op_assign (tt := tt); (focus ((conv => lhs; whnf); try exact rfl)); exact rfl)) | (apply og_callv; (refine op_callP (tt := tt) cal11 (hr _) rfl rfl rfl rfl rfl ?_)) | (apply og_load; (apply op_lk; (apply lk_loadX tab; exact rfl; exact rfl; exact rfl; (focus ((conv => lhs; whnf; arg 1; whnf; arg 2; whnf); try skip)); (exact Nat.le_of_ble_eq_true rfl)); (intro c h; cases h); exact rfl)) | (apply og_un; (apply op_un (tt := tt) true; (focus ((conv => lhs; whnf; arg 1; whnf; arg 2; whnf); try exact rfl)); (exact trivial); exact rfl)) | (apply og_box; (apply op_boxX (tt := tt); (focus ((conv => lhs; whnf); try exact rfl)); exact rfl; (exact (rfl : _ = 0)); exact rfl)) | (apply ops_nil))) | (apply og_sat; (first | (apply sat_seq) | (apply sat_region) | (apply sat_cond_t; exact rfl; (exact rfl)) | (apply sat_ret))) | (apply pe_norm) | (apply pe_ret))
    (change fnPost _ _ _ _ _ _ _; apply fn_endN; (exact .inr rfl); (focus (repeat' (first | (apply rr_tmp; (focus ((conv => lhs; whnf); try exact rfl)); (exact Wk.same _)) | exact rr_nil))); exact rfl; (exact rfl); exact Nat.le_refl _; (focus (repeat' (first | exact trivial | refine ⟨?_, ?_⟩))); exact hso)
    exact ⟨rfl, rfl⟩

end Go.Proofs.Ytflgoabdgibphaa.Pv
