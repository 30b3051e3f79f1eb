/- The laws of a place besides. -/
import Derived.Test.YtilfahfadlijcaaSiteP
namespace Go.Proofs.Ytilfahfadlijcaa.Pv
open Go
set_option linter.unusedVariables false
set_option linter.unusedSimpArgs false
set_option maxRecDepth 100000

theorem siteNexts_sat (a b : Int) (l : List (Int × Int)) (nodes : Int) (live : List Bool) (hl : l.length ≤ 9223372036854775807) (σ : Sto) : SatCall Try.prog 7 [.agg [.int .i64 a, .int .i64 b, .sl .sh 2 (l.map plc), .int .i64 nodes, .sl .sh 1 (live.map .bool)]] σ fun x σ' => x = .bool true ∧ σ' = σ := by
  refine sat_fn tab Try.func7 rfl (Nat.le_of_ble_eq_true rfl) (by decide) fun hso => sat_base ?_
  have d1 : ((thirdP a b).1 == (thirdP a b).1) = true := by simp
  have d2 : ((thirdP a b).2 == (thirdP a b).2) = true := by simp
  repeat' (first | (apply og_ops; (first | (apply og_guard; (first | (apply ops_guard_t; exact (rfl : _ = some _); exact (rfl : _ = PV.bool _); (first | exact rfl | assumption)) | (apply ops_guard_f'; exact (rfl : _ = some _); exact (rfl : _ = PV.bool _); (assumption); exact ltn rfl) | (apply ops_gsplit; exact (rfl : _ = some _); exact (rfl : _ = PV.bool _); all_goals intro hb))) | (apply og_move; (apply op_move (tt := tt); (focus ((conv => lhs; whnf); try exact rfl)); exact rfl)) | (apply og_assign; (apply op_assign (tt := tt); (focus ((conv => lhs; whnf); try exact rfl)); exact rfl)) | (apply og_callv; (first | (refine op_callP (tt := tt) cal9 (shown_sat _) rfl rfl rfl rfl rfl ?_) | (refine op_callP (tt := tt) cal12 (third_sat _ _ _) rfl rfl rfl rfl rfl ?_) | (refine op_callP (tt := tt) cal18 (refThird_sat _ _ _) rfl rfl rfl rfl rfl ?_) | (refine op_callP (tt := tt) cal19 (next_sat _ _ _ ?_ _) rfl rfl rfl rfl rfl ?_; (assumption)) | (refine op_callP (tt := tt) cal20 (refNext_sat _ _ _ ?_ _) rfl rfl rfl rfl rfl ?_; (assumption)))) | (apply og_bin; (first | (apply op_bin true tab; (focus ((conv => lhs; whnf; arg 1; whnf; arg 2; whnf); try exact rfl)); (exact trivial); exact rfl) | (apply op_lk; (apply lk_eql tab eqok; exact rfl; exact rfl; (focus ((conv => lhs; whnf); try exact rfl)); (focus ((conv => lhs; whnf); try exact rfl)); exact rfl; exact rfl); (intro c h; cases h); exact rfl))) | (apply og_pick; (apply op_pick (tt := tt); exact (rfl : _ = PV.bool _); (first | refine .inl ⟨rfl, ?_⟩ | refine .inl ⟨by assumption, ?_⟩ | refine .inr ⟨by assumption, ?_⟩); (focus ((conv => lhs; whnf); try exact rfl)); exact ltn rfl)) | (apply og_load; (apply op_lk; (apply lk_loadX tab; exact rfl; exact rfl; exact rfl; (focus ((conv => lhs; whnf; arg 1; whnf; arg 2; whnf); try skip)); (first | exact trivial | exact Nat.le_of_ble_eq_true rfl)); (intro c h; cases h); exact rfl)) | (apply og_fieldAddr; (apply op_lk; (apply lk_fieldAddrB tab; exact rfl; (focus ((conv => lhs; whnf); try exact rfl)); exact rfl; (first | exact (rfl : _ = 0) | exact (rfl : _ = 1) | exact (rfl : _ = 2) | exact (rfl : _ = 3) | exact (rfl : _ = 4))); (intro c h; cases h); exact rfl)) | (apply og_extract; (apply op_extract (tt := tt); (focus ((conv => lhs; whnf; arg 1; whnf; arg 2; whnf); try exact rfl)); (exact trivial); exact rfl)) | (apply og_store; (apply op_storeX tab; exact rfl; exact rfl; exact rfl; exact rfl; exact rfl; exact rfl; exact rfl; exact rfl)) | (apply og_alloc; (apply op_allocX tab; exact rfl; exact rfl; (first | exact (rfl : _ = 1) | exact (rfl : _ = 2)); exact rfl)) | (apply og_box; (apply op_boxX (tt := tt); (focus ((conv => lhs; whnf); try exact rfl)); exact rfl; (exact (rfl : _ = 0)); exact rfl)) | (apply ops_nil))) | (apply og_sat; (first | (apply sat_seq) | (apply sat_region) | (apply sat_ret))) | (apply pe_norm))
  all_goals (change fnPost _ _ _ _ _ _ _; apply fn_endN; (exact .inr rfl); (focus (repeat' (first | (apply rr_tmp; (focus ((conv => lhs; whnf); try exact rfl)); (exact Wk.same _)) | exact rr_nil))); exact rfl; (exact rfl); exact Nat.le_refl _; (focus (repeat' (first | exact trivial | refine ⟨?_, ?_⟩))); exact hso)
  all_goals first | exact ⟨rfl, rfl⟩ | (exfalso; simp_all; done) | (refine ⟨?_, rfl⟩; simp [resOf]; done)

theorem next_ok {l : List (Int × Int)} {nodes : Int} {live : List Bool} (h : (nextP l nodes live).2 = 0) : (nextP l nodes live).1 ∉ l ∧ livesP (nextP l nodes live).1.2 live = true ∧ (nextP l nodes live).1.1 = (l.getD 0 default).1 ∧ (nextP l nodes live).1.2 < nodes := by
  unfold nextP at h ⊢
  split
  · rename_i h'; rw [if_pos h'] at h; cases h
  · rename_i h'
    rw [if_neg h'] at h
    split
    · rename_i h2; rw [if_pos h2] at h; cases h
    · rename_i h2
      rw [if_neg h2] at h
      have h3 : 1 ≤ nodes ∧ nodes ≤ 64 := Classical.byContradiction fun e => h' (.inr e)
      generalize hfrom : max ((l.getD (l.length - 1) default).2.tmod nodes) 0 = from0 at h ⊢
      have hf0 : 0 ≤ from0 := by omega
      cases hx : (ringP from0 nodes live).find? (fun n => !decide (((l.getD 0 default).1, n) ∈ l)) with
      | none => rw [hx] at h; cases h
      | some v =>
        have h4 := List.find?_some hx
        have hm := List.mem_of_find?_eq_some hx
        have hm := (ring_perm (vol := from0) (nodes := nodes) live hf0 h3.1 h3.2).mem_iff.1 hm
        obtain ⟨h5, h6⟩ := List.mem_filter.1 hm
        obtain ⟨k, hk, rfl⟩ := List.mem_map.1 h5
        have := List.mem_range.1 hk
        exact ⟨by simpa using h4, h6, rfl, by simp only; omega⟩

theorem siteBesides_sat (l : List (Int × Int)) (nodes : Int) (live : List Bool) (hl : l.length ≤ 9223372036854775807) (σ : Sto) : SatCall Try.prog 8 [.sl .sh 2 (l.map plc), .int .i64 nodes, .sl .sh 1 (live.map .bool)] σ fun x σ' => x = .bool true ∧ σ' = σ := by
  refine sat_fn tab Try.func8 rfl (Nat.le_of_ble_eq_true rfl) (by decide) fun hso => sat_base ?_
  by_cases h0 : (nextP l nodes live).2 = 0
  · have c0 : ((nextP l nodes live).2 != 0) = false := by simpa using h0
    obtain ⟨h1, h2, h3, h4⟩ := next_ok h0
    have hpos : 0 < l.length := by
      rcases Nat.eq_zero_or_pos l.length with e | e
      · have : l = [] := List.length_eq_zero_iff.1 e
        subst this
        rw [nextP, if_pos (.inl rfl)] at h0
        cases h0
      · exact e
    repeat' (first | (apply og_ops; (first | (apply og_move; (apply op_move (tt := tt); (focus ((conv => lhs; whnf); try exact rfl)); exact rfl)) | (apply og_assign; (apply op_assign (tt := tt); (focus ((conv => lhs; whnf); try exact rfl)); exact rfl)) | (apply og_callv; (first | (refine op_callP (tt := tt) cal9 (shown_sat _) rfl rfl rfl rfl rfl ?_) | (refine op_callP (tt := tt) cal19 (next_sat _ _ _ ?_ _) rfl rfl rfl rfl rfl ?_; (assumption)))) | (apply og_bin; (apply op_bin true tab; (focus ((conv => lhs; whnf; arg 1; whnf; arg 2; whnf); try exact rfl)); (exact trivial); exact rfl)) | (apply og_extract; (apply op_extract (tt := tt); (focus ((conv => lhs; whnf; arg 1; whnf; arg 2; whnf); try exact rfl)); (exact trivial); exact rfl)) | (apply og_store; (apply op_storeX tab; exact rfl; exact rfl; exact rfl; exact rfl; exact rfl; exact rfl; exact rfl; exact rfl)) | (apply og_alloc; (apply op_allocX tab; exact rfl; exact rfl; (exact (rfl : _ = 0)); exact rfl)) | (apply ops_nil))) | (apply og_sat; (first | (apply sat_seq) | (apply sat_region) | (apply sat_cond_f; exact rfl; (assumption)) | (apply sat_skip) | (apply sat_block))) | (apply pe_norm))
    generalize nextP l nodes live = p at h0 h1 h2 h3 h4 c0
    refine sat_loopW (fun i : Nat => [(0, .sl .sh 2 (l.map plc)), (1, .int .i64 nodes), (2, .sl .sh 1 (live.map .bool)), (7, .bool true), (8, .ptr (σ.length + 0) 0), (10, .int .i64 i)]) (fun _ => σ ++ [.cells [.int .i64 p.1.1, .int .i64 p.1.2]]) (fun i => i ≤ l.length) (fun i => l.length - i) 0 (Nat.zero_le _) ?_ rfl ?_
    · (repeat' (first | exact trivial | exact Wk.same _ | refine ⟨?_, ?_⟩))
    intro i hi
    rcases Nat.lt_or_ge i l.length with hil | hig
    · have d1 : decide ((i : Int) < ((l.map plc).length : Int)) = true := by simp; omega
      have hne : l.getD i default ≠ p.1 := fun e => h1 (by rw [← e]; exact getD_mem hil)
      repeat' (first | (apply og_ops; (first | (apply og_move; (apply op_move (tt := tt); (focus ((conv => lhs; whnf); try exact rfl)); exact rfl)) | (apply og_assign; (apply op_assign (tt := tt); (focus ((conv => lhs; whnf); try exact rfl)); exact rfl)) | (apply og_bin; (first | (apply op_bin true tab; (focus ((conv => lhs; whnf; arg 1; whnf; arg 2; whnf); try exact rfl)); (first | exact trivial | (simp only [InR]; omega)); exact rfl) | (apply op_lk; (apply lk_eql tab eqok; exact rfl; exact rfl; (focus ((conv => lhs; whnf); try exact rfl)); (focus ((conv => lhs; whnf); try exact rfl)); exact rfl; exact rfl); (intro c h; cases h); exact rfl))) | (apply og_callb; (apply op_len tab; (focus ((conv => lhs; whnf; arg 1; whnf; arg 2; whnf); try exact rfl)); (exact trivial); exact rfl)) | (apply ops_nil))) | (apply og_sat; (first | (apply sat_seq) | (apply sat_region) | (apply sat_cond_t; exact rfl; (assumption)) | (apply sat_cond; exact (rfl : _ = PV.bool _); all_goals intro hb) | (apply sat_skip) | (apply sat_ret) | (apply sat_block) | (apply sat_drawC (k := 5); exact mixed; decide +kernel; decide +kernel))) | (apply pe_norm) | (apply pe_ret) | (apply pb_norm) | (apply pb_ret) | (apply og_dd; (first | (apply dd_lk; (first | (apply lg_indexAddr; exact lk_indexMap (tI := 3) _ tab rfl (by (focus ((conv => lhs; whnf); try exact rfl))) (by (focus ((conv => lhs; whnf); try exact rfl))) rfl (by (omega)) (by (omega)) (by (focus ((conv => lhs; whnf); try exact rfl)))) | (apply lg_move; (apply lk_move (tt := tt); (focus ((conv => lhs; whnf); try exact rfl)))) | (apply lg_load; (first | (apply lk_loadX tab; exact rfl; exact rfl; exact rfl; (focus ((conv => lhs; whnf; arg 1; whnf; arg 2; whnf); try skip)); (exact Nat.le_of_ble_eq_true rfl)) | (apply lk_load tab; (focus ((conv => lhs; whnf; arg 1; whnf; arg 2; whnf); try skip)); (exact Nat.le_of_ble_eq_true rfl))))); exact rfl; exact rfl) | (apply dd_nil))))
      · exfalso
        refine hne (Prod.ext ?_ ?_) <;> (have h := hb; simp at h ⊢; simp [h])
      · refine ⟨i + 1, by omega, by omega, ?_, rfl⟩
        (repeat' (first | exact trivial | exact Wk.same _ | refine ⟨?_, ?_⟩))
    · have d1 : decide ((i : Int) < ((l.map plc).length : Int)) = false := by simp; omega
      have d2 : (p.1.1 == (l.getD (Int.toNat 0) default).1) = true := by rw [h3]; simp
      have d3 : decide (p.1.2 < nodes) = true := decide_eq_true h4
      repeat' (first | (apply og_ops; (first | (apply og_guard; (apply ops_guard_t; exact (rfl : _ = some _); exact (rfl : _ = PV.bool _); (assumption))) | (apply og_move; (apply op_move (tt := tt); (focus ((conv => lhs; whnf); try exact rfl)); exact rfl)) | (apply og_assign; (apply op_assign (tt := tt); (focus ((conv => lhs; whnf); try exact rfl)); exact rfl)) | (apply og_callv; (refine op_callP (tt := tt) cal11 (lawlives_sat _ _ _) rfl rfl rfl rfl rfl ?_)) | (apply og_bin; (apply op_bin true tab; (focus ((conv => lhs; whnf; arg 1; whnf; arg 2; whnf); try exact rfl)); (exact trivial); exact rfl)) | (apply og_pick; (apply op_pick (tt := tt); exact (rfl : _ = PV.bool _); (refine .inl ⟨by assumption, ?_⟩); (focus ((conv => lhs; whnf); try exact rfl)); exact ltn rfl)) | (apply og_load; (apply op_lk; (apply lk_loadX tab; exact rfl; exact rfl; exact rfl; (focus ((conv => lhs; whnf; arg 1; whnf; arg 2; whnf); try skip)); (exact trivial)); (intro c h; cases h); exact rfl)) | (apply og_callb; (apply op_len tab; (focus ((conv => lhs; whnf; arg 1; whnf; arg 2; whnf); try exact rfl)); (exact trivial); exact rfl)) | (apply og_fieldAddr; (apply op_lk; (apply lk_fieldAddrB tab; exact rfl; (focus ((conv => lhs; whnf); try exact rfl)); exact rfl; (exact (rfl : _ = 1))); (intro c h; cases h); exact rfl)) | (apply ops_nil))) | (apply og_sat; (first | (apply sat_seq) | (apply sat_region) | (apply sat_cond_f; exact rfl; (assumption)) | (apply sat_ret) | (apply sat_exit) | (apply sat_drawC (k := 17); exact mixed; decide +kernel; decide +kernel))) | (apply pe_norm) | (apply pe_exit) | (apply pb_same) | (apply og_dd; (first | (apply dd_lk; (first | (apply lg_move; (apply lk_move (tt := tt); (focus ((conv => lhs; whnf); try exact rfl)))) | (apply lg_pick; (apply lk_pick (tt := tt); exact (rfl : _ = PV.bool _); (first | refine .inl ⟨rfl, ?_⟩ | refine .inl ⟨by assumption, ?_⟩); (focus ((conv => lhs; whnf); try exact rfl))))); exact rfl; exact rfl) | (apply dd_lkg; exact (rfl : _ = some _); exact (rfl : _ = PV.bool _); (first | exact rfl | assumption); (first | (apply lg_indexAddr; exact lk_indexMap (tI := 3) _ tab rfl (by (focus ((conv => lhs; whnf); try exact rfl))) (by (focus ((conv => lhs; whnf); try exact rfl))) rfl (by (omega)) (by (omega)) (by (focus ((conv => lhs; whnf); try exact rfl)))) | (apply lg_move; (apply lk_move (tt := tt); (focus ((conv => lhs; whnf); try exact rfl)))) | (apply lg_bin; (apply lk_bin true tab; (focus ((conv => lhs; whnf; arg 1; whnf; arg 2; whnf); try exact rfl)); (exact trivial))) | (apply lg_fieldAddr; (first | (apply lk_fieldAddrB tab; exact rfl; (focus ((conv => lhs; whnf); try exact rfl)); exact rfl; (first | exact (rfl : _ = 0) | exact (rfl : _ = 1))) | (apply lk_fieldAddrC tab; exact rfl; (focus ((conv => lhs; whnf); try exact rfl)); exact rfl; exact rfl; (focus ((conv => lhs; whnf); try exact rfl))))) | (apply lg_load; (first | (apply lk_loadX tab; exact rfl; exact rfl; exact rfl; (focus ((conv => lhs; whnf; arg 1; whnf; arg 2; whnf); try skip)); (exact trivial)) | (apply lk_load tab; (focus ((conv => lhs; whnf; arg 1; whnf; arg 2; whnf); try skip)); (exact trivial))))); exact rfl; exact rfl) | (apply dd_nil))))
      all_goals (change fnPost _ _ _ _ _ _ _; apply fn_endN; (exact .inr rfl); (focus (repeat' (first | (apply rr_tmp; (focus ((conv => lhs; whnf); try exact rfl)); (exact Wk.same _)) | exact rr_nil))); exact rfl; (exact rfl); exact Nat.le_refl _; (focus (repeat' (first | exact trivial | refine ⟨?_, ?_⟩))); exact hso)
      all_goals first
        | exact ⟨rfl, rfl⟩
        | (refine ⟨?_, rfl⟩; simp_all; first | done | rfl)
  · have c0 : ((nextP l nodes live).2 != 0) = true := by simpa using h0
    repeat' (first | (apply og_ops; (first | (apply og_move; (apply op_move (tt := tt); (focus ((conv => lhs; whnf); try exact rfl)); exact rfl)) | (apply og_assign; (apply op_assign (tt := tt); (focus ((conv => lhs; whnf); try exact rfl)); exact rfl)) | (apply og_callv; (first | (refine op_callP (tt := tt) cal9 (shown_sat _) rfl rfl rfl rfl rfl ?_) | (refine op_callP (tt := tt) cal19 (next_sat _ _ _ ?_ _) rfl rfl rfl rfl rfl ?_; (assumption)))) | (apply og_bin; (apply op_bin true tab; (focus ((conv => lhs; whnf; arg 1; whnf; arg 2; whnf); try exact rfl)); (exact trivial); exact rfl)) | (apply og_extract; (apply op_extract (tt := tt); (focus ((conv => lhs; whnf; arg 1; whnf; arg 2; whnf); try exact rfl)); (exact trivial); exact rfl)) | (apply og_store; (apply op_storeX tab; exact rfl; exact rfl; exact rfl; exact rfl; exact rfl; exact rfl; exact rfl; exact rfl)) | (apply og_alloc; (apply op_allocX tab; exact rfl; exact rfl; (exact (rfl : _ = 0)); exact rfl)) | (apply ops_nil))) | (apply og_sat; (first | (apply sat_seq) | (apply sat_region) | (apply sat_cond_t; exact rfl; (assumption)) | (apply sat_ret))) | (apply pe_norm) | (apply pe_ret))
    (change fnPost _ _ _ _ _ _ _; apply fn_endN; (exact .inr rfl); (focus (repeat' (first | (apply rr_tmp; (focus ((conv => lhs; whnf); try exact rfl)); (exact Wk.same _)) | exact rr_nil))); exact rfl; (exact rfl); exact Nat.le_refl _; (focus (repeat' (first | exact trivial | refine ⟨?_, ?_⟩))); exact hso)
    exact ⟨rfl, rfl⟩

theorem dec_plc (c : List PV) (h : HasC (.struct [.int .i64, .int .i64]) c) : ∃ a : Int × Int, mkV (.struct [.int .i64, .int .i64]) c = plc a ∧ True := by
  obtain ⟨_, _, rfl, ⟨a, _, rfl⟩, _, _, rfl, ⟨b, _, rfl⟩, rfl⟩ := h
  exact ⟨(a, b), rfl, trivial⟩

theorem siteNexts_law (c0 : List PV) (h0 : HasC (.struct [.int .i64, .int .i64, .sl 2 (.struct [.int .i64, .int .i64]), .int .i64, .sl 1 .bool]) c0) :
    SatCall Try.prog 7 [mkV (.struct [.int .i64, .int .i64, .sl 2 (.struct [.int .i64, .int .i64]), .int .i64, .sl 1 .bool]) c0] [] fun r _ => r = .bool true := by
  obtain ⟨_, _, rfl, ⟨a, _, rfl⟩, _, _, rfl, ⟨b, _, rfl⟩, _, _, rfl, ⟨ls, rfl, hl, hls⟩, _, _, rfl, ⟨d, _, rfl⟩, _, _, rfl, ⟨es, rfl, _, he⟩, rfl⟩ := h0
  obtain ⟨l, rfl, _⟩ := elems_of plc (fun _ => True) dec_plc hls
  obtain ⟨bs, rfl, _⟩ := elems_of PV.bool (fun _ => True) dec_bool he
  have hlm : l.length ≤ 9223372036854775807 := by have h := hl; rw [List.length_map] at h; exact h
  exact (siteNexts_sat a b l d bs hlm []).mono fun _ _ h => h.1

theorem siteBesides_law (c0 : List PV) (h0 : HasC (.sl 2 (.struct [.int .i64, .int .i64])) c0) (c1 : List PV) (h1 : HasC (.int .i64) c1) (c2 : List PV) (h2 : HasC (.sl 1 .bool) c2) :
    SatCall Try.prog 8 [mkV (.sl 2 (.struct [.int .i64, .int .i64])) c0, mkV (.int .i64) c1, mkV (.sl 1 .bool) c2] [] fun r _ => r = .bool true := by
  obtain ⟨ls, rfl, hl, hls⟩ := h0
  obtain ⟨d, _, rfl⟩ := h1
  obtain ⟨es, rfl, _, he⟩ := h2
  obtain ⟨l, rfl, _⟩ := elems_of plc (fun _ => True) dec_plc hls
  obtain ⟨bs, rfl, _⟩ := elems_of PV.bool (fun _ => True) dec_bool he
  have hlm : l.length ≤ 9223372036854775807 := by have h := hl; rw [List.length_map] at h; exact h
  exact (siteBesides_sat l d bs hlm []).mono fun _ _ h => h.1

end Go.Proofs.Ytilfahfadlijcaa.Pv
