/- IndexRises. -/
import Derived.Test.YtbjmafbbjhoddaaIdxA
/- ENC: vl nm ss -/
namespace Go.Proofs.Ytbjmafbbjhoddaa.Pv
open Go
set_option linter.unusedVariables false
set_option linter.unusedSimpArgs false
set_option maxRecDepth 100000

set_option maxHeartbeats 4000000 in
theorem rises_sat (l m : List Cm) (hl : l.length ≤ 1048576) (hc : ∀ c ∈ l, c.places.length ≤ 1048576 ∧ c.name.size ≤ 1048576) (hm : m.length ≤ 1048576) (hd : ∀ c ∈ m, c.places.length ≤ 1048576 ∧ c.name.size ≤ 1048576) (σ : Sto) :
    SatCall Try.prog 6 [.sl .sh 12 (l.map cm), .sl .sh 12 (m.map cm)] σ fun r σ' => r = .bool true ∧ σ' = σ := by
  refine sat_fn tab Try.func6 rfl (Nat.le_of_ble_eq_true rfl) (by decide) fun hso => sat_base ?_
  have r1 := runs_sat l hl hc
  have hI := (run0 (l.take 300)).1
  have hok := run0_ok l
  have hXl : (runX ix0 (l.take 300)).vols.length ≤ 1048576 := by have := hok.vols; omega
  generalize runX ix0 (l.take 300) = X at *
  repeat' (first | (apply og_ops; (first | (apply og_move; (apply op_move (tt := tt); (focus ((conv => lhs; whnf); try exact rfl)); exact rfl)) | (apply og_assign; (apply op_assign (tt := tt); (focus ((conv => lhs; whnf); try exact rfl)); exact rfl)) | (apply og_callv; (first | (refine op_callP (tt := tt) cal12 (shown_sat _) rfl rfl rfl rfl rfl ?_) | (refine op_callP (tt := tt) cal17 (r1 _) rfl rfl rfl rfl rfl ?_))) | (apply og_load; (apply op_lk; (apply lk_loadX tab; exact rfl; exact rfl; exact rfl; (focus ((conv => lhs; whnf; arg 1; whnf; arg 2; whnf); try skip)); (exact Nat.le_of_ble_eq_true rfl)); (intro c h; cases h); exact rfl)) | (apply og_store; (apply op_storeX tab; exact rfl; exact rfl; exact rfl; (focus ((conv => lhs; whnf); try exact rfl)); exact rfl; exact rfl; exact rfl; exact rfl)) | (apply og_alloc; (apply op_allocX tab; exact rfl; exact rfl; (first | exact (rfl : _ = 0) | exact (rfl : _ = 1)); exact rfl)) | (apply ops_nil))) | (apply og_sat; (first | (apply sat_seq) | (apply sat_region) | (apply sat_block))) | (apply pe_norm))
  refine sat_loopW (fun j : Nat => [(1, .sl .sh 12 (m.map cm)), (5, .bool true), (6, .ptr (σ.length + 0) 0), (7, .ptr (σ.length + 1) 0), (8, .int .i64 j)]) (fun j => σ ++ [.cells (ix X).cells, .cells (ix (runX X (m.take j))).cells]) (fun j => j ≤ m.length ∧ j ≤ 300) (fun j => m.length - j) 0 ⟨Nat.zero_le _, Nat.zero_le _⟩ ?_ rfl ?_
  · (repeat' (first | exact trivial | exact Wk.same _ | refine ⟨?_, ?_⟩))
  rintro j ⟨hj, hj3⟩
  have hoY : OkB 2414 (runX X (m.take j)) := (runX_ok (by decide) (m.take j) X hok).up (by rw [List.length_take]; omega)
  by_cases hlt : j < m.length ∧ j < 300
  · obtain ⟨h1, h2⟩ := hlt
    have c1 : decide ((j : Int) < (m.length : Int)) = true := decide_eq_true (by omega)
    have c1m : decide ((j : Int) < ((m.map cm).length : Int)) = true := by rw [List.length_map]; exact c1
    have c2 : decide ((j : Int) < 300) = true := decide_eq_true (by omega)
    obtain ⟨g1, g2⟩ := hd _ (getD_memL h1)
    have hD := doI_sat (runX X (m.take j)) (m.getD j default) (hoY.ok (by decide)) g1 g2
    have ht : runX X (m.take (j + 1)) = (doX (runX X (m.take j)) (m.getD j default)).1 := by
      rw [← runX_snoc, List.take_succ_eq_append_getElem h1, List.getD_eq_getElem?_getD, List.getElem?_eq_getElem h1]; rfl
    generalize doX (runX X (m.take j)) (m.getD j default) = D at *
    obtain ⟨Y, R⟩ := D
    dsimp only at ht
    repeat' (first | (apply og_ops; (first | (apply og_guard; (apply ops_guard_t; exact (rfl : _ = some _); exact (rfl : _ = PV.bool _); (assumption))) | (apply og_move; (apply op_move (tt := tt); (focus ((conv => lhs; whnf); try exact rfl)); exact rfl)) | (apply og_assign; (apply op_assign (tt := tt); (focus ((conv => lhs; whnf); try exact rfl)); exact rfl)) | (apply og_callv; (refine op_callP (tt := tt) cal14 (hD _) rfl rfl rfl rfl rfl ?_)) | (apply og_bin; (apply op_bin true tab; (focus ((conv => lhs; whnf; arg 1; whnf; arg 2; whnf); try exact rfl)); (first | exact trivial | (simp only [InR]; omega)); exact rfl)) | (apply og_pick; (apply op_pick (tt := tt); exact (rfl : _ = PV.bool _); (refine .inl ⟨by assumption, ?_⟩); (focus ((conv => lhs; whnf); try exact rfl)); exact ltn rfl)) | (apply og_callb; (apply op_len tab; (focus ((conv => lhs; whnf; arg 1; whnf; arg 2; whnf); try exact rfl)); (exact trivial); exact rfl)) | (apply og_store; (apply op_storeX tab; exact rfl; exact rfl; exact rfl; (focus ((conv => lhs; whnf); try exact rfl)); exact rfl; exact rfl; exact rfl; exact rfl)) | (apply ops_nil))) | (apply og_sat; (first | (apply sat_seq) | (apply sat_region) | (apply sat_cond_t; exact rfl; (assumption)) | (apply sat_skip) | (apply sat_block) | (apply sat_drawG1 (id := 7) (k := 10) (keys := [[28], [29], [30], [31], [32], [33], [27], [34], [35], []]) (j := 9); exact mixed; decide +kernel; decide +kernel))) | (apply pe_norm) | (apply pb_norm) | (first | (apply so_lk; (first | (apply lg_indexAddr; exact lk_indexMap (tI := 3) _ tab rfl (by (focus ((conv => lhs; whnf); try exact rfl))) (by (focus ((conv => lhs; whnf); try exact rfl))) rfl (by (omega)) (by (omega)) (by (focus ((conv => lhs; whnf); try exact rfl)))) | (apply lg_move; (apply lk_move (tt := tt); (focus ((conv => lhs; whnf); try exact rfl)))) | (apply lg_extract; (apply lk_extract (tt := tt); (focus ((conv => lhs; whnf; arg 1; whnf; arg 2; whnf); try exact rfl)); (exact trivial))) | (apply lg_load; (first | (apply lk_loadX tab; exact rfl; exact rfl; exact rfl; (focus ((conv => lhs; whnf; arg 1; whnf; arg 2; whnf); try skip)); (exact Nat.le_of_ble_eq_true rfl)) | (apply lk_load tab; (focus ((conv => lhs; whnf; arg 1; whnf; arg 2; whnf); try skip)); (exact Nat.le_of_ble_eq_true rfl))))); exact rfl; exact rfl) | (apply og_so; intro env0)) | (apply eg3; exact rfl; exact rfl; exact rfl) | (apply og_oth; (first | exact oth_nil | (apply oth_same; exact rfl) | (apply oth_no; decide +kernel) | (apply oth_yes))) | (apply og_dg; (first | (apply dg_n) | (apply dg_nil))) | (apply og_dj; (first | (apply dg_turn0_0; exact rfl; exact rfl) | (apply dg_step0_1; exact rfl; exact rfl; exact rfl; exact rfl))))
    refine ⟨j + 1, ⟨by omega, by omega⟩, by omega, ?_, ?_⟩
    · (repeat' (first | exact trivial | exact Wk.same _ | refine ⟨?_, ?_⟩))
    · rw [ht]; rfl
  · have hcs : decide ((j : Int) < ((m.map cm).length : Int)) = false ∨ (decide ((j : Int) < ((m.map cm).length : Int)) = true ∧ decide ((j : Int) < 300) = false) := by
      rw [List.length_map]
      by_cases h : j < m.length
      · exact .inr ⟨decide_eq_true (by omega), decide_eq_false (by omega)⟩
      · exact .inl (decide_eq_false (by omega))
    have hYI := runX_inv hI (m.take j)
    have hUp := runX_up hI (m.take j)
    generalize runX X (m.take j) = Y at *
    have hYl : Y.vols.length ≤ 1048576 := by have := hoY.vols; omega
    rcases hcs with c1 | ⟨c1, c2⟩
    all_goals
      repeat' (first | (apply og_ops; (first | (apply og_guard; (first | (apply ops_guard_t; exact (rfl : _ = some _); exact (rfl : _ = PV.bool _); (assumption)) | (apply ops_guard_f'; exact (rfl : _ = some _); exact (rfl : _ = PV.bool _); (assumption); exact ltn rfl))) | (apply og_move; (apply op_move (tt := tt); (focus ((conv => lhs; whnf); try exact rfl)); exact rfl)) | (apply og_assign; (apply op_assign (tt := tt); (focus ((conv => lhs; whnf); try exact rfl)); exact rfl)) | (apply og_bin; (apply op_bin true tab; (focus ((conv => lhs; whnf; arg 1; whnf; arg 2; whnf); try exact rfl)); (exact trivial); exact rfl)) | (apply og_pick; (apply op_pick (tt := tt); exact (rfl : _ = PV.bool _); (first | refine .inl ⟨by assumption, ?_⟩ | refine .inr ⟨by assumption, ?_⟩); (focus ((conv => lhs; whnf); try exact rfl)); exact ltn rfl)) | (apply og_callb; (apply op_len tab; (focus ((conv => lhs; whnf; arg 1; whnf; arg 2; whnf); try exact rfl)); (exact trivial); exact rfl)) | (apply ops_nil))) | (apply og_sat; (first | (apply sat_seq) | (apply sat_region) | (apply sat_cond_f; exact rfl; (first | exact rfl | assumption)) | (apply sat_block) | (apply sat_exit))) | (apply pe_norm) | (apply pe_exit) | (apply pb_same))
      refine sat_loopD (fun i : Nat => [(5, .bool true), (6, .ptr (σ.length + 0) 0), (7, .ptr (σ.length + 1) 0), (9, .int .i64 i)]) (fun _ => σ ++ [.cells (ix X).cells, .cells (ix Y).cells]) (fun i => i ≤ X.vols.length) (fun i => X.vols.length - i) 0 (Nat.zero_le _) ?_ rfl ?_
      · (repeat' (first | exact trivial | exact Wk.same _ | refine ⟨?_, ?_⟩))
      rintro i hi
      by_cases hil : i < X.vols.length
      · have d1 : decide ((i : Int) < (X.vols.length : Int)) = true := decide_eq_true (by omega)
        have d1m : decide ((i : Int) < ((X.vols.map vl).length : Int)) = true := by rw [List.length_map]; exact d1
        have hv : X.vols[i]? = some (X.vols.getD ((i : Int)).toNat default) := by rw [Int.toNat_natCast, List.getD_eq_getElem?_getD, List.getElem?_eq_getElem hil]; rfl
        repeat' (first | (apply og_ops; (first | (apply og_move; (apply op_move (tt := tt); (focus ((conv => lhs; whnf); try exact rfl)); exact rfl)) | (apply og_bin; (apply op_bin true tab; (focus ((conv => lhs; whnf; arg 1; whnf; arg 2; whnf); try exact rfl)); (exact trivial); exact rfl)) | (apply og_load; (first | (apply op_lk; (apply lk_loadX tab; exact rfl; exact rfl; exact rfl; (focus ((conv => lhs; whnf; arg 1; whnf; arg 2; whnf); try skip)); (first | exact trivial | exact Nat.le_of_ble_eq_true rfl)); (intro c h; cases h); exact rfl) | (apply op_load tab; (focus ((conv => lhs; whnf; arg 1; whnf; arg 2; whnf); try skip)); (exact Nat.le_of_ble_eq_true rfl); exact rfl))) | (apply og_callb; (apply op_len tab; (focus ((conv => lhs; whnf; arg 1; whnf; arg 2; whnf); try exact rfl)); (exact trivial); exact rfl)) | (apply og_indexAddr; (refine op_indexMap (tI := 3) _ tab rfl (by (focus ((conv => lhs; whnf); try exact rfl))) (by (focus ((conv => lhs; whnf); try exact rfl))) rfl (by (omega)) (by (omega)) (by (focus ((conv => lhs; whnf); try exact rfl))) (ltn rfl) ?_)) | (apply og_fieldAddr; (apply op_lk; (apply lk_fieldAddrB tab; exact rfl; (focus ((conv => lhs; whnf); try exact rfl)); exact rfl; (exact (rfl : _ = 0))); (intro c h; cases h); exact rfl)) | (apply og_store; (apply op_storeX tab; exact rfl; exact rfl; exact rfl; (focus ((conv => lhs; whnf); try exact rfl)); exact rfl; exact rfl; exact rfl; exact rfl)) | (apply og_alloc; (apply op_allocX tab; exact rfl; exact rfl; (exact (rfl : _ = 2)); exact rfl)) | (apply ops_nil))) | (apply og_sat; (first | (apply sat_seq) | (apply sat_region) | (apply sat_cond_t; exact rfl; (assumption)) | (apply sat_skip) | (apply sat_block))) | (apply pe_norm))
        generalize X.vols.getD ((i : Int)).toNat default = v at *
        obtain ⟨w, u1, u2, u3, u4, u5, u6, u7, _⟩ := hUp i v hv
        have q1 := Vol_at hYI hYl u1 u2
        have e1 : decide (w.phase < v.phase) = false := decide_eq_false (by omega)
        have e2 : decide (w.used < v.used) = false := decide_eq_false (by omega)
        have e3 : decide ((w.parts.length : Int) < (v.parts.length : Int)) = false := decide_eq_false (by omega)
        have e3m : decide (((w.parts.map plc).length : Int) < ((v.parts.map plc).length : Int)) = false := by rw [List.length_map, List.length_map]; exact e3
        have e4 : (w.home != v.home) = false := by rw [u3]; simp
        refine ops_env [(5, .bool true), (6, .ptr (σ.length + 0) 0), (7, .ptr (σ.length + 1) 0), (9, .int .i64 i), (10, .ptr (σ.length + 2) 0), (49, ix Y), (51, .int .i64 v.id)] ?_ (ops_sto (σ' := σ ++ [.cells (ix X).cells, .cells (ix Y).cells, .cells (vl v).cells]) rfl ?_)
        · (repeat' (first | exact trivial | exact Wk.same _ | refine ⟨?_, ?_⟩))
        have hps : decide (2 ≤ v.phase) = false ∨ (decide (2 ≤ v.phase) = true ∧ (((w.parts.map plc).length : Int) != ((v.parts.map plc).length : Int)) = false) := by
          by_cases h : 2 ≤ v.phase
          · exact .inr ⟨decide_eq_true h, by rw [List.length_map, List.length_map, u7 h]; simp⟩
          · exact .inl (decide_eq_false h)
        rcases hps with e5 | ⟨e5, e6⟩
        all_goals
          repeat' (first | (apply og_ops; (first | (apply og_guard; (first | (apply ops_guard_t; exact (rfl : _ = some _); exact (rfl : _ = PV.bool _); (first | exact rfl | assumption)) | (apply ops_guard_f'; exact (rfl : _ = some _); exact (rfl : _ = PV.bool _); (assumption); exact ltn rfl))) | (apply og_move; (apply op_move (tt := tt); (focus ((conv => lhs; whnf); try exact rfl)); exact rfl)) | (apply og_assign; (apply op_assign (tt := tt); (focus ((conv => lhs; whnf); try exact rfl)); exact rfl)) | (apply og_callv; (refine op_callP (tt := tt) cal18 (q1 _) rfl rfl rfl rfl rfl ?_)) | (apply og_bin; (apply op_bin true tab; (focus ((conv => lhs; whnf; arg 1; whnf; arg 2; whnf); try exact rfl)); (first | exact trivial | (simp only [InR]; omega)); exact rfl)) | (apply og_pick; (apply op_pick (tt := tt); exact (rfl : _ = PV.bool _); (first | refine .inr ⟨rfl, ?_⟩ | refine .inl ⟨by assumption, ?_⟩ | refine .inr ⟨by assumption, ?_⟩); (focus ((conv => lhs; whnf); try exact rfl)); exact ltn rfl)) | (apply og_load; (apply op_lk; (apply lk_loadX tab; exact rfl; exact rfl; exact rfl; (focus ((conv => lhs; whnf; arg 1; whnf; arg 2; whnf); try skip)); (exact trivial)); (intro c h; cases h); exact rfl)) | (apply og_callb; (apply op_len tab; (focus ((conv => lhs; whnf; arg 1; whnf; arg 2; whnf); try exact rfl)); (exact trivial); exact rfl)) | (apply og_fieldAddr; (apply op_lk; (apply lk_fieldAddrB tab; exact rfl; (focus ((conv => lhs; whnf); try exact rfl)); exact rfl; (first | exact (rfl : _ = 1) | exact (rfl : _ = 3) | exact (rfl : _ = 4) | exact (rfl : _ = 5))); (intro c h; cases h); exact rfl)) | (apply og_un; (apply op_un (tt := tt) true; (focus ((conv => lhs; whnf; arg 1; whnf; arg 2; whnf); try exact rfl)); (exact trivial); exact rfl)) | (apply og_extract; (apply op_extract (tt := tt); (focus ((conv => lhs; whnf; arg 1; whnf; arg 2; whnf); try exact rfl)); (exact trivial); exact rfl)) | (apply og_store; (apply op_storeX tab; exact rfl; exact rfl; exact rfl; (focus ((conv => lhs; whnf); try exact rfl)); exact rfl; exact rfl; exact rfl; exact rfl)) | (apply og_alloc; (apply op_allocX tab; exact rfl; exact rfl; (exact (rfl : _ = 3)); exact rfl)) | (apply ops_nil))) | (apply og_sat; (first | (apply sat_seq) | (apply sat_region) | (apply sat_cond_f; exact rfl; (first | exact rfl | assumption)) | (apply sat_skip))) | (apply pe_norm) | (apply pb_norm))
          refine ⟨i + 1, by omega, by omega, ?_, ?_⟩
          · (repeat' (first | exact trivial | exact Wk.same _ | refine ⟨?_, ?_⟩))
          · exact loopD_end 2 rfl (by simp) (stoOK_app hso (by simp [Ent.lt, ltAll, PV.lt, PV.cells, ix])) (envL_lt (by simp [PV.lt, ix]))
      · have d1 : decide ((i : Int) < (X.vols.length : Int)) = false := decide_eq_false (by omega)
        have d1m : decide ((i : Int) < ((X.vols.map vl).length : Int)) = false := by rw [List.length_map]; exact d1
        repeat' (first | (apply og_ops; (first | (apply og_move; (apply op_move (tt := tt); (focus ((conv => lhs; whnf); try exact rfl)); exact rfl)) | (apply og_assign; (apply op_assign (tt := tt); (focus ((conv => lhs; whnf); try exact rfl)); exact rfl)) | (apply og_bin; (apply op_bin true tab; (focus ((conv => lhs; whnf; arg 1; whnf; arg 2; whnf); try exact rfl)); (exact trivial); exact rfl)) | (apply og_load; (apply op_lk; (apply lk_loadX tab; exact rfl; exact rfl; exact rfl; (focus ((conv => lhs; whnf; arg 1; whnf; arg 2; whnf); try skip)); (exact trivial)); (intro c h; cases h); exact rfl)) | (apply og_callb; (apply op_len tab; (focus ((conv => lhs; whnf; arg 1; whnf; arg 2; whnf); try exact rfl)); (exact trivial); exact rfl)) | (apply og_fieldAddr; (apply op_lk; (apply lk_fieldAddrB tab; exact rfl; (focus ((conv => lhs; whnf); try exact rfl)); exact rfl; (exact (rfl : _ = 0))); (intro c h; cases h); exact rfl)) | (apply ops_nil))) | (apply og_sat; (first | (apply sat_seq) | (apply sat_region) | (apply sat_cond_f; exact rfl; (assumption)) | (apply sat_ret) | (apply sat_exit))) | (apply pe_norm) | (apply pe_exit) | (apply pb_same))
        (change fnPost _ _ _ _ _ _ _; apply fn_endN; (exact .inr rfl); (focus (repeat' (first | (apply rr_tmp; (focus ((conv => lhs; whnf); try exact rfl)); (exact Wk.same _)) | exact rr_nil))); exact rfl; (exact rfl); exact Nat.le_refl _; (focus (repeat' (first | exact trivial | refine ⟨?_, ?_⟩))); exact hso)
        exact ⟨rfl, rfl⟩

end Go.Proofs.Ytbjmafbbjhoddaa.Pv
