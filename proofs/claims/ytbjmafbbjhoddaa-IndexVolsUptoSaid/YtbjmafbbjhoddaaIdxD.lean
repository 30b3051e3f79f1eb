/- IndexVols. -/
import Derived.Test.YtbjmafbbjhoddaaIdxA
/- ENC: vl nm ss -/
namespace Go.Proofs.Ytbjmafbbjhoddaa.Pv
open Go
set_option linter.unusedVariables false
set_option linter.unusedSimpArgs false
set_option maxRecDepth 100000

theorem eqPlD (a b : Int × Int) : (a.1 == b.1 && a.2 == b.2) = decide (a = b) := by
  rw [Bool.eq_iff_iff]
  simp only [Bool.and_eq_true, beq_iff_eq, decide_eq_true_eq]
  exact ⟨fun h => Prod.ext h.1 h.2, fun h => by rw [h]; exact ⟨rfl, rfl⟩⟩

set_option maxHeartbeats 8000000 in
theorem vols15_sat (l : List Cm) (hl : l.length ≤ 1048576) (hc : ∀ c ∈ l, c.places.length ≤ 1048576 ∧ c.name.size ≤ 1048576) (σ : Sto) :
    SatCall Try.prog 5 [.sl .sh 12 (l.map cm)] σ fun r σ' => r = .bool true ∧ σ' = σ := by
  refine sat_fn tab Try.func5 rfl (Nat.le_of_ble_eq_true rfl) (by decide) fun hso => sat_base ?_
  have r1 := runs_sat l hl hc
  obtain ⟨hI, _⟩ := run0 (l.take 300)
  have hok := run0_ok l
  generalize runX ix0 (l.take 300) = X at *
  have hxl : X.vols.length ≤ 1048576 := by have := hok.vols; omega
  repeat' (first | (apply og_ops; (first | (apply og_move; (apply op_move (tt := tt); (focus ((conv => lhs; whnf); try exact rfl)); exact rfl)) | (apply og_assign; (apply op_assign (tt := tt); (focus ((conv => lhs; whnf); try exact rfl)); exact rfl)) | (apply og_callv; (first | (refine op_callP (tt := tt) cal12 (shown_sat _) rfl rfl rfl rfl rfl ?_) | (refine op_callP (tt := tt) cal17 (r1 _) rfl rfl rfl rfl rfl ?_))) | (apply og_store; (apply op_storeX tab; exact rfl; exact rfl; exact rfl; exact rfl; exact rfl; exact rfl; exact rfl; exact rfl)) | (apply og_alloc; (apply op_allocX tab; exact rfl; exact rfl; (exact (rfl : _ = 0)); exact rfl)) | (apply ops_nil))) | (apply og_sat; (first | (apply sat_seq) | (apply sat_region) | (apply sat_block))) | (apply pe_norm))
  refine sat_loopD (fun i : Nat => [(3, .bool true), (4, .ptr (σ.length + 0) 0), (5, .int .i64 i)]) (fun _ => σ ++ [.cells (ix X).cells]) (fun i => i ≤ X.vols.length) (fun i => X.vols.length - i) 0 (Nat.zero_le _) ?_ rfl ?_
  · (repeat' (first | exact trivial | exact Wk.same _ | refine ⟨?_, ?_⟩))
  rintro i hi
  by_cases hil : i < X.vols.length
  · have c1 : decide ((i : Int) < (X.vols.length : Int)) = true := decide_eq_true (by omega)
    have c1m : decide ((i : Int) < ((X.vols.map vl).length : Int)) = true := by rw [List.length_map]; exact c1
    obtain ⟨v, hvd⟩ : ∃ v, X.vols.getD ((i : Int)).toNat default = v := ⟨_, rfl⟩
    have hv : X.vols[i]? = some v := by rw [← hvd, Int.toNat_natCast, List.getD_eq_getElem?_getD, List.getElem?_eq_getElem hil]; rfl
    have hV := hI.ok i v hv
    have hplc : v.places.length ≤ 1048576 := by have := hok.places _ (List.mem_of_getElem? hv); omega
    obtain ⟨p1, p5⟩ := hV.ph
    obtain ⟨b1, b2⟩ := hV.hb
    have d1 : decide (v.phase < 1) = false := decide_eq_false (by omega)
    have d55 : decide (5 < v.phase) = false := decide_eq_false (by omega)
    have hpl : (∀ p ∈ v.places, p.1 = v.home) ∧ v.places.Nodup := by
      by_cases h : v.phase < 3
      · rw [hV.bare h]; exact ⟨fun p hp => by simp at hp, List.nodup_nil⟩
      · exact (hV.full (by omega)).2
    have dl : 3 ≤ v.phase → (((v.places.map plc).length : Int) != 14) = false := fun h => by rw [List.length_map, (hV.full h).1]; rfl
    have hcs : ((v.phase == 5) = true ∧ (v.phase != 5) = false ∧ (v.id != 1000 + 64 * v.pair + v.sum) = false ∧ (1 ≤ v.pair ∧ v.pair ≤ 48) ∧ (1 ≤ v.sum ∧ v.sum ≤ 48) ∧ decide (v.phase < 3) = false ∧ decide (3 ≤ v.phase) = true ∧ (((v.places.map plc).length : Int) != 14) = false ∧ (v.phase != 4) = true) ∨
        ((v.phase == 5) = false ∧ (v.phase != 5) = true ∧ (v.id != (i : Int) + 1) = false ∧ decide (v.phase < 3) = false ∧ decide (3 ≤ v.phase) = true ∧ (((v.places.map plc).length : Int) != 14) = false ∧ (v.phase != 4) = false ∧
          ∃ w s : Vl, (∀ σ, SatCall Try.prog 18 [ix X, .int .i64 v.pair] σ fun r σ' => r = .tup [vl w, .bool true] ∧ σ' = σ) ∧ (∀ σ, SatCall Try.prog 18 [ix X, .int .i64 v.sum] σ fun r σ' => r = .tup [vl s, .bool true] ∧ σ' = σ) ∧
            (w.pair != v.id) = false ∧ (w.sum != v.sum) = false ∧ (w.home == v.home) = false ∧ (s.phase != 5) = false ∧ (s.home + v.home + w.home != 6) = false ∧ (1 ≤ w.home ∧ w.home ≤ 3) ∧ (1 ≤ s.home ∧ s.home ≤ 3)) ∨
        ((v.phase == 5) = false ∧ (v.phase != 5) = true ∧ (v.id != (i : Int) + 1) = false ∧ decide (v.phase < 3) = false ∧ decide (3 ≤ v.phase) = true ∧ (((v.places.map plc).length : Int) != 14) = false ∧ (v.phase != 4) = true) ∨
        ((v.phase == 5) = false ∧ (v.phase != 5) = true ∧ (v.id != (i : Int) + 1) = false ∧ decide (v.phase < 3) = true ∧ decide (3 ≤ v.phase) = false ∧ decide (0 < ((v.places.map plc).length : Int)) = false ∧ (v.phase != 4) = true) := by
      by_cases h5 : v.phase = 5
      · obtain ⟨q1, q2, q3, _⟩ := hV.sumid h5
        exact .inl ⟨by simpa using h5, by simpa using h5, by rw [q1]; simp, q2, q3, decide_eq_false (by omega), decide_eq_true (by omega), dl (by omega), by rw [h5]; rfl⟩
      have hid := hV.id h5
      have i1 : (v.phase == 5) = false := by simpa using h5
      have i2 : (v.phase != 5) = true := by simpa using h5
      have i3 : (v.id != (i : Int) + 1) = false := by rw [hid]; simp
      by_cases h4 : v.phase = 4
      · obtain ⟨k, w, m, s, t1, t0, t2, t3, t4, t5, t6, t7, t8, t9⟩ := hV.twin h4
        exact .inr (.inl ⟨i1, i2, i3, decide_eq_false (by omega), decide_eq_true (by omega), dl (by omega), by rw [h4]; rfl, w, s, Vol_at hI hxl t1 t2, Vol_at hI hxl t6 t7, by rw [t3]; simp, by rw [t4]; simp, by simpa using t5, by rw [t8]; rfl, by rw [t9]; rfl, (hI.ok k w t1).hb, (hI.ok m s t6).hb⟩)
      have i4 : (v.phase != 4) = true := by simpa using h4
      by_cases h3 : v.phase < 3
      · exact .inr (.inr (.inr ⟨i1, i2, i3, decide_eq_true h3, decide_eq_false (by omega), by rw [hV.bare h3]; rfl, i4⟩))
      · exact .inr (.inr (.inl ⟨i1, i2, i3, decide_eq_false h3, decide_eq_true (by omega), dl (by omega), i4⟩))
    clear dl hV
    subst hvd
    rcases hcs with ⟨d5, d5', did, g6, g7, d3, d3', dl, d4⟩ | ⟨d5, d5', did, d3, d3', dl, d4, w, s, q1, q2, g1, g2, g3, g4, g5, g6, g7⟩ | ⟨d5, d5', did, d3, d3', dl, d4⟩ | ⟨d5, d5', did, d3, d3', dl, d4⟩
    all_goals
      repeat' (first | (apply og_ops; (first | (apply og_guard; (first | (apply ops_guard_t; exact (rfl : _ = some _); exact (rfl : _ = PV.bool _); (first | exact rfl | assumption)) | (apply ops_guard_f'; exact (rfl : _ = some _); exact (rfl : _ = PV.bool _); (assumption); exact ltn rfl))) | (apply og_move; (apply op_move (tt := tt); (focus ((conv => lhs; whnf); try exact rfl)); exact rfl)) | (apply og_assign; (apply op_assign (tt := tt); (focus ((conv => lhs; whnf); try exact rfl)); exact rfl)) | (apply og_bin; (apply op_bin true tab; (focus ((conv => lhs; whnf; arg 1; whnf; arg 2; whnf); try exact rfl)); (first | exact trivial | (simp only [InR]; omega)); exact rfl)) | (apply og_pick; (apply op_pick (tt := tt); exact (rfl : _ = PV.bool _); (first | refine .inr ⟨rfl, ?_⟩ | refine .inl ⟨by assumption, ?_⟩ | refine .inr ⟨by assumption, ?_⟩); (focus ((conv => lhs; whnf); try exact rfl)); exact ltn rfl)) | (apply og_load; (first | (apply op_lk; (apply lk_loadX tab; exact rfl; exact rfl; exact rfl; (focus ((conv => lhs; whnf; arg 1; whnf; arg 2; whnf); try skip)); (exact trivial)); (intro c h; cases h); exact rfl) | (apply op_load tab; (focus ((conv => lhs; whnf; arg 1; whnf; arg 2; whnf); try skip)); (exact Nat.le_of_ble_eq_true rfl); exact rfl))) | (apply og_callb; (apply op_len tab; (focus ((conv => lhs; whnf; arg 1; whnf; arg 2; whnf); try exact rfl)); (exact trivial); exact rfl)) | (apply og_indexAddr; (refine op_indexMap (tI := 3) _ tab rfl (by (focus ((conv => lhs; whnf); try exact rfl))) (by (focus ((conv => lhs; whnf); try exact rfl))) rfl (by (omega)) (by (omega)) (by (focus ((conv => lhs; whnf); try exact rfl))) (ltn rfl) ?_)) | (apply og_fieldAddr; (apply op_lk; (apply lk_fieldAddrB tab; exact rfl; (focus ((conv => lhs; whnf); try exact rfl)); exact rfl; (first | exact (rfl : _ = 0) | exact (rfl : _ = 4) | exact (rfl : _ = 6) | exact (rfl : _ = 7) | exact (rfl : _ = 8))); (intro c h; cases h); exact rfl)) | (apply og_store; (apply op_storeX tab; exact rfl; exact rfl; exact rfl; exact rfl; exact rfl; exact rfl; exact rfl; exact rfl)) | (apply og_alloc; (apply op_allocX tab; exact rfl; exact rfl; (exact (rfl : _ = 1)); exact rfl)) | (apply ops_nil))) | (apply og_sat; (first | (apply sat_seq) | (apply sat_region) | (apply sat_cond_t; exact rfl; (assumption)) | (apply sat_cond_f; exact rfl; (first | exact rfl | assumption)) | (apply sat_skip) | (apply sat_block))) | (apply pe_norm))
      generalize X.vols.getD ((i : Int)).toNat default = v at *
      obtain ⟨hh, hnd⟩ := hpl
      refine sat_loopW (fun k : Nat => [(3, .bool true), (4, .ptr (σ.length + 0) 0), (5, .int .i64 i), (6, .ptr (σ.length + 1) 0), (7, .int .i64 k)]) (fun _ => σ ++ [.cells (ix X).cells, .cells (vl v).cells]) (fun k => k ≤ v.places.length) (fun k => v.places.length - k) 0 (Nat.zero_le _) ?_ rfl ?_
      · (repeat' (first | exact trivial | exact Wk.same _ | refine ⟨?_, ?_⟩))
      rintro k hk
      by_cases hkl : k < v.places.length
      · have c2 : decide ((k : Int) < (v.places.length : Int)) = true := decide_eq_true (by omega)
        have c2m : decide ((k : Int) < ((v.places.map plc).length : Int)) = true := by rw [List.length_map]; exact c2
        have f1 : ((v.places.getD ((k : Int)).toNat default).1 != v.home) = false := by
          rw [Int.toNat_natCast, hh _ (getD_memL hkl)]; simp
        repeat' (first | (apply og_ops; (first | (apply og_move; (apply op_move (tt := tt); (focus ((conv => lhs; whnf); try exact rfl)); exact rfl)) | (apply og_assign; (apply op_assign (tt := tt); (focus ((conv => lhs; whnf); try exact rfl)); exact rfl)) | (apply og_bin; (apply op_bin true tab; (focus ((conv => lhs; whnf; arg 1; whnf; arg 2; whnf); try exact rfl)); (exact trivial); exact rfl)) | (apply og_load; (apply op_lk; (apply lk_loadX tab; exact rfl; exact rfl; exact rfl; (focus ((conv => lhs; whnf; arg 1; whnf; arg 2; whnf); try skip)); (exact trivial)); (intro c h; cases h); exact rfl)) | (apply og_callb; (apply op_len tab; (focus ((conv => lhs; whnf; arg 1; whnf; arg 2; whnf); try exact rfl)); (exact trivial); exact rfl)) | (apply og_fieldAddr; (apply op_lk; (apply lk_fieldAddrB tab; exact rfl; (focus ((conv => lhs; whnf); try exact rfl)); exact rfl; (exact (rfl : _ = 6))); (intro c h; cases h); exact rfl)) | (apply ops_nil))) | (apply og_sat; (first | (apply sat_seq) | (apply sat_region) | (apply sat_cond_t; exact rfl; (assumption)) | (apply sat_cond_f; exact rfl; (assumption)) | (apply sat_skip) | (apply sat_block) | (apply sat_drawC (k := 8); exact mixed; decide +kernel; decide +kernel))) | (apply pe_norm) | (apply og_dd; (first | (apply dd_lk; (first | (apply lg_indexAddr; exact lk_indexMap (tI := 3) _ tab rfl (by (focus ((conv => lhs; whnf); try exact rfl))) (by (focus ((conv => lhs; whnf); try exact rfl))) rfl (by (omega)) (by (omega)) (by (focus ((conv => lhs; whnf); try exact rfl)))) | (apply lg_move; (apply lk_move (tt := tt); (focus ((conv => lhs; whnf); try exact rfl)))) | (apply lg_fieldAddr; (first | (apply lk_fieldAddrB tab; exact rfl; (focus ((conv => lhs; whnf); try exact rfl)); exact rfl; (first | exact (rfl : _ = 1) | exact (rfl : _ = 6))) | (apply lk_fieldAddrC tab; exact rfl; (focus ((conv => lhs; whnf); try exact rfl)); exact rfl; exact rfl; (focus ((conv => lhs; whnf); try exact rfl))))) | (apply lg_load; (first | (apply lk_loadX tab; exact rfl; exact rfl; exact rfl; (focus ((conv => lhs; whnf; arg 1; whnf; arg 2; whnf); try skip)); (exact trivial)) | (apply lk_load tab; (focus ((conv => lhs; whnf; arg 1; whnf; arg 2; whnf); try skip)); (exact trivial))))); exact rfl; exact rfl) | (apply dd_nil))))
        refine sat_loopW (fun j : Nat => [(3, .bool true), (4, .ptr (σ.length + 0) 0), (5, .int .i64 i), (6, .ptr (σ.length + 1) 0), (7, .int .i64 k), (8, .int .i64 j)]) (fun _ => σ ++ [.cells (ix X).cells, .cells (vl v).cells]) (fun j => j ≤ k) (fun j => k - j) 0 (Nat.zero_le _) ?_ rfl ?_
        · (repeat' (first | exact trivial | exact Wk.same _ | refine ⟨?_, ?_⟩))
        rintro j hj
        by_cases hjk : j < k
        · have c3 : decide ((j : Int) < (k : Int)) = true := decide_eq_true (by omega)
          have hjl : j < v.places.length := by omega
          repeat' (first | (apply og_ops; (first | (apply og_move; (apply op_move (tt := tt); (focus ((conv => lhs; whnf); try exact rfl)); exact rfl)) | (apply og_assign; (apply op_assign (tt := tt); (focus ((conv => lhs; whnf); try exact rfl)); exact rfl)) | (apply og_bin; (first | (apply op_bin true tab; (focus ((conv => lhs; whnf; arg 1; whnf; arg 2; whnf); try exact rfl)); (first | exact trivial | (simp only [InR]; omega)); exact rfl) | (apply op_lk; (apply lk_eql tab eqok; exact rfl; exact rfl; (focus ((conv => lhs; whnf); try exact rfl)); (focus ((conv => lhs; whnf); try exact rfl)); exact rfl; exact rfl); (intro c h; cases h); exact rfl))) | (apply ops_nil))) | (apply og_sat; (first | (apply sat_seq) | (apply sat_region) | (apply sat_cond_t; exact rfl; (assumption)) | (apply sat_cond; exact (rfl : _ = PV.bool _); all_goals intro hb) | (apply sat_skip) | (apply sat_ret) | (apply sat_block) | (apply sat_drawC (k := 10); exact mixed; decide +kernel; decide +kernel))) | (apply pe_norm) | (apply pe_ret) | (apply pb_norm) | (apply pb_ret) | (apply og_dd; (first | (apply dd_lk; (first | (apply lg_indexAddr; exact lk_indexMap (tI := 3) _ tab rfl (by (focus ((conv => lhs; whnf); try exact rfl))) (by (focus ((conv => lhs; whnf); try exact rfl))) rfl (by (omega)) (by (omega)) (by (focus ((conv => lhs; whnf); try exact rfl)))) | (apply lg_move; (apply lk_move (tt := tt); (focus ((conv => lhs; whnf); try exact rfl)))) | (apply lg_fieldAddr; (apply lk_fieldAddrB tab; exact rfl; (focus ((conv => lhs; whnf); try exact rfl)); exact rfl; (exact (rfl : _ = 6)))) | (apply lg_load; (first | (apply lk_loadX tab; exact rfl; exact rfl; exact rfl; (focus ((conv => lhs; whnf; arg 1; whnf; arg 2; whnf); try skip)); (exact trivial)) | (apply lk_load tab; (focus ((conv => lhs; whnf; arg 1; whnf; arg 2; whnf); try skip)); (exact Nat.le_of_ble_eq_true rfl))))); exact rfl; exact rfl) | (apply dd_nil))))
          · exfalso
            have e2 : decide (v.places.getD j default = v.places.getD k default) = true := by rw [← eqPlD]; simpa using hb
            have e3 := of_decide_eq_true e2
            rw [List.getD_eq_getElem?_getD, List.getElem?_eq_getElem hjl, List.getD_eq_getElem?_getD, List.getElem?_eq_getElem hkl] at e3
            simp only [Option.getD_some] at e3
            rw [List.nodup_iff_pairwise_ne, List.pairwise_iff_getElem] at hnd
            exact hnd j k hjl hkl hjk e3
          · refine ⟨j + 1, by omega, by omega, ?_, rfl⟩
            (repeat' (first | exact trivial | exact Wk.same _ | refine ⟨?_, ?_⟩))
        · have c3 : decide ((j : Int) < (k : Int)) = false := decide_eq_false (by omega)
          repeat' (first | (apply og_ops; (first | (apply og_move; (apply op_move (tt := tt); (focus ((conv => lhs; whnf); try exact rfl)); exact rfl)) | (apply og_assign; (apply op_assign (tt := tt); (focus ((conv => lhs; whnf); try exact rfl)); exact rfl)) | (apply og_bin; (apply op_bin true tab; (focus ((conv => lhs; whnf; arg 1; whnf; arg 2; whnf); try exact rfl)); (first | exact trivial | (simp only [InR]; omega)); exact rfl)) | (apply ops_nil))) | (apply og_sat; (first | (apply sat_seq) | (apply sat_region) | (apply sat_cond_f; exact rfl; (assumption)) | (apply sat_exit))) | (apply pe_norm) | (apply pb_norm) | (apply pe_exit) | (apply pb_same))
          refine ⟨k + 1, by omega, by omega, ?_, rfl⟩
          (repeat' (first | exact trivial | exact Wk.same _ | refine ⟨?_, ?_⟩))
      · have c2 : decide ((k : Int) < (v.places.length : Int)) = false := decide_eq_false (by omega)
        have c2m : decide ((k : Int) < ((v.places.map plc).length : Int)) = false := by rw [List.length_map]; exact c2
        repeat' (first | (apply og_ops; (first | (apply og_guard; (apply ops_guard_t; exact (rfl : _ = some _); exact (rfl : _ = PV.bool _); (first | exact rfl | assumption))) | (apply og_move; (apply op_move (tt := tt); (focus ((conv => lhs; whnf); try exact rfl)); exact rfl)) | (apply og_assign; (apply op_assign (tt := tt); (focus ((conv => lhs; whnf); try exact rfl)); exact rfl)) | (apply og_callv; (first | (refine op_callP (tt := tt) cal18 (q1 _) rfl rfl rfl rfl rfl ?_) | (refine op_callP (tt := tt) cal18 (q2 _) rfl rfl rfl rfl rfl ?_))) | (apply og_bin; (apply op_bin true tab; (focus ((conv => lhs; whnf; arg 1; whnf; arg 2; whnf); try exact rfl)); (first | exact trivial | (simp only [InR]; omega)); exact rfl)) | (apply og_pick; (apply op_pick (tt := tt); exact (rfl : _ = PV.bool _); (first | refine .inr ⟨rfl, ?_⟩ | refine .inr ⟨by assumption, ?_⟩); (focus ((conv => lhs; whnf); try exact rfl)); exact ltn rfl)) | (apply og_load; (apply op_lk; (apply lk_loadX tab; exact rfl; exact rfl; exact rfl; (focus ((conv => lhs; whnf; arg 1; whnf; arg 2; whnf); try skip)); (first | exact trivial | exact Nat.le_of_ble_eq_true rfl)); (intro c h; cases h); exact rfl)) | (apply og_callb; (apply op_len tab; (focus ((conv => lhs; whnf; arg 1; whnf; arg 2; whnf); try exact rfl)); (exact trivial); exact rfl)) | (apply og_fieldAddr; (apply op_lk; (apply lk_fieldAddrB tab; exact rfl; (focus ((conv => lhs; whnf); try exact rfl)); exact rfl; (first | exact (rfl : _ = 0) | exact (rfl : _ = 1) | exact (rfl : _ = 4) | exact (rfl : _ = 6) | exact (rfl : _ = 7) | exact (rfl : _ = 8))); (intro c h; cases h); exact rfl)) | (apply og_un; (apply op_un (tt := tt) true; (focus ((conv => lhs; whnf; arg 1; whnf; arg 2; whnf); try exact rfl)); (exact trivial); exact rfl)) | (apply og_extract; (apply op_extract (tt := tt); (focus ((conv => lhs; whnf; arg 1; whnf; arg 2; whnf); try exact rfl)); (exact trivial); exact rfl)) | (apply og_store; (apply op_storeX tab; exact rfl; exact rfl; exact rfl; exact rfl; exact rfl; exact rfl; exact rfl; exact rfl)) | (apply og_alloc; (apply op_allocX tab; exact rfl; exact rfl; (first | exact (rfl : _ = 2) | exact (rfl : _ = 3)); exact rfl)) | (apply ops_nil))) | (apply og_sat; (first | (apply sat_seq) | (apply sat_region) | (apply sat_cond_t; exact rfl; (assumption)) | (apply sat_cond_f; exact rfl; (assumption)) | (apply sat_skip) | (apply sat_exit))) | (apply pe_norm) | (apply pb_norm) | (apply pe_exit) | (apply pb_same))
        refine ⟨i + 1, by omega, by omega, ?_, ?_⟩
        · (repeat' (first | exact trivial | exact Wk.same _ | refine ⟨?_, ?_⟩))
        · exact loopD_end 1 rfl (by simp) (stoOK_app hso (by simp [Ent.lt, ltAll, PV.lt, PV.cells, ix])) (envL_lt (by simp [PV.lt, ix]))
  · have c1 : decide ((i : Int) < (X.vols.length : Int)) = false := decide_eq_false (by omega)
    have c1m : decide ((i : Int) < ((X.vols.map vl).length : Int)) = false := by rw [List.length_map]; exact c1
    repeat' (first | (apply og_ops; (first | (apply og_move; (apply op_move (tt := tt); (focus ((conv => lhs; whnf); try exact rfl)); exact rfl)) | (apply og_assign; (apply op_assign (tt := tt); (focus ((conv => lhs; whnf); try exact rfl)); exact rfl)) | (apply og_bin; (apply op_bin true tab; (focus ((conv => lhs; whnf; arg 1; whnf; arg 2; whnf); try exact rfl)); (exact trivial); exact rfl)) | (apply og_load; (apply op_lk; (apply lk_loadX tab; exact rfl; exact rfl; exact rfl; (focus ((conv => lhs; whnf; arg 1; whnf; arg 2; whnf); try skip)); (exact trivial)); (intro c h; cases h); exact rfl)) | (apply og_callb; (apply op_len tab; (focus ((conv => lhs; whnf; arg 1; whnf; arg 2; whnf); try exact rfl)); (exact trivial); exact rfl)) | (apply og_fieldAddr; (apply op_lk; (apply lk_fieldAddrB tab; exact rfl; (focus ((conv => lhs; whnf); try exact rfl)); exact rfl; (exact (rfl : _ = 0))); (intro c h; cases h); exact rfl)) | (apply ops_nil))) | (apply og_sat; (first | (apply sat_seq) | (apply sat_region) | (apply sat_cond_f; exact rfl; (assumption)) | (apply sat_ret) | (apply sat_exit))) | (apply pe_norm) | (apply pe_exit) | (apply pb_same))
    (change fnPost _ _ _ _ _ _ _; apply fn_endN; (exact .inr rfl); (focus (repeat' (first | (apply rr_tmp; (focus ((conv => lhs; whnf); try exact rfl)); (exact Wk.same _)) | exact rr_nil))); exact rfl; (exact rfl); exact Nat.le_refl _; (focus (repeat' (first | exact trivial | refine ⟨?_, ?_⟩))); exact hso)
    exact ⟨rfl, rfl⟩

end Go.Proofs.Ytbjmafbbjhoddaa.Pv
