/- AcceptActs. -/
import Derived.Test.YtflgoabdgibphaaAccG
namespace Go.Proofs.Ytflgoabdgibphaa.Pv
open Go
set_option linter.unusedVariables false
set_option linter.unusedSimpArgs false
set_option maxRecDepth 100000

theorem idxI_le {α : Type} (p : α → Bool) (xs : List α) : idxI p xs < 0 ∨ (idxI p xs).toNat < xs.length := by
  rcases Int.lt_or_le (idxI p xs) 0 with h | h
  · exact .inl h
  · exact .inr (idxI_lt h)
theorem putV_len (xs : List Vt) (v : Vt) : (putV xs v).length ≤ xs.length + 1 := by
  unfold putV
  split
  · rw [List.length_set]; omega
  · rw [insI_len]; omega
theorem accP_len (a : Acp) (v : Vt) : (accP a v).1.2.length ≤ a.2.length + 1 := by
  unfold accP
  split
  · exact Nat.le_succ _
  · split
    · exact Nat.le_succ _
    · exact putV_len _ _
theorem prepP_len2 (a : Acp) (b : Int) : (prepP a b).2.1.length ≤ a.2.length := by
  unfold prepP
  split
  · exact Nat.zero_le _
  · split
    · exact Nat.zero_le _
    · exact Nat.le_refl _

set_option maxHeartbeats 4000000 in
theorem acceptActs_sat (a : Acp) (b : Int) (v : Vt) (o : Acp) (hl : a.2.length ≤ 1048575) (σ : Sto) :
    SatCall Try.prog 5 [.agg [.int .u64 a.1, .sl .sh 3 (a.2.map vt), .int .u64 b, .int .i64 v.1, .int .u64 v.2.1, .str v.2.2, .int .u64 o.1, .sl .sh 3 (o.2.map vt)]] σ fun x σ' => x = .bool true ∧ σ' = σ := by
  refine sat_fn tab Try.func5 rfl (Nat.le_of_ble_eq_true rfl) (by decide) fun hso => sat_base ?_
  have hl' : a.2.length ≤ 1048576 := by omega
  have hp1 := prepare_sat a b hl'
  have hp2 := refPrepare_sat a b
  have hp3 := accept_sat a v hl'
  have hp4 := refAccept_sat a v hl'
  have l1 : (prepP a b).1.2.length ≤ 1048576 := by rw [prepP_len]; omega
  have l2 : (accP a v).1.2.length ≤ 1048576 := by have := accP_len a v; omega
  have l3 : (prepP a b).2.1.length ≤ 1048576 := by have := prepP_len2 a b; omega
  have hq1 := refSame_sat (prepP a b).1 (prepP a b).1 l1
  rw [decide_eq_true rfl] at hq1
  have hq2 := refSame_sat (accP a v).1 (accP a v).1 l2
  rw [decide_eq_true rfl] at hq2
  have hq3 := votes_sat (prepP a b).2.1 (prepP a b).2.1 l3
  rw [decide_eq_true rfl] at hq3
  have hq4 := same_sat a a hl'
  rw [decide_eq_true rfl] at hq4
  have hq5 := same_sat a o hl'
  have hq6 := refSame_sat a o hl'
  have hq7 := right_sat a hl'
  have hq8 := refRight_sat a hl'
  have d1 : ((prepP a b).2.2 == (prepP a b).2.2) = true := by simp
  have d2 : ((accP a v).2 == (accP a v).2) = true := by simp
  have d3 : (rightP a == rightP a) = true := by simp
  have d4 : (decide (a = o) == decide (a = o)) = true := by simp
  repeat' (first | (apply og_ops; (first | (apply og_move; (apply op_move (tt := tt); (focus ((conv => lhs; whnf); try exact rfl)); exact rfl)) | (apply og_assign; (apply op_assign (tt := tt); (focus ((conv => lhs; whnf); try exact rfl)); exact rfl)) | (apply og_callv; (refine op_callP (tt := tt) cal8 (shown_sat _) rfl rfl rfl rfl rfl ?_)) | (apply og_load; (apply op_lk; (apply lk_loadX tab; exact rfl; exact rfl; exact rfl; (focus ((conv => lhs; whnf; arg 1; whnf; arg 2; whnf); try skip)); (first | exact trivial | exact Nat.le_of_ble_eq_true rfl)); (intro c h; cases h); exact rfl)) | (apply og_fieldAddr; (apply op_lk; (apply lk_fieldAddrB tab; exact rfl; (focus ((conv => lhs; whnf); try exact rfl)); exact rfl; (first | exact (rfl : _ = 0) | exact (rfl : _ = 2) | exact (rfl : _ = 3) | exact (rfl : _ = 6))); (intro c h; cases h); exact rfl)) | (apply og_store; (apply op_storeX tab; exact rfl; exact rfl; exact rfl; exact rfl; exact rfl; exact rfl; exact rfl; exact rfl)) | (apply og_alloc; (apply op_allocX tab; exact rfl; exact rfl; (first | exact (rfl : _ = 1) | exact (rfl : _ = 2) | exact (rfl : _ = 3)); exact rfl)) | (apply og_box; (apply op_boxX (tt := tt); (focus ((conv => lhs; whnf); try exact rfl)); exact rfl; (exact (rfl : _ = 0)); exact rfl)) | (apply ops_nil))) | (apply og_sat; (first | (apply sat_seq) | (apply sat_region))) | (apply pe_norm))
  refine op_callP (tt := tt) cal9 (hp1 _) rfl rfl rfl rfl rfl ?_
  repeat' (first | (apply og_ops; (first | (apply og_move; (apply op_move (tt := tt); (focus ((conv => lhs; whnf); try exact rfl)); exact rfl)) | (apply og_assign; (apply op_assign (tt := tt); (focus ((conv => lhs; whnf); try exact rfl)); exact rfl)) | (apply og_load; (apply op_lk; (apply lk_loadX tab; exact rfl; exact rfl; exact rfl; (focus ((conv => lhs; whnf; arg 1; whnf; arg 2; whnf); try skip)); (exact Nat.le_of_ble_eq_true rfl)); (intro c h; cases h); exact rfl)) | (apply og_extract; (apply op_extract (tt := tt); (focus ((conv => lhs; whnf; arg 1; whnf; arg 2; whnf); try exact rfl)); (exact trivial); exact rfl)) | (apply og_store; (apply op_storeX tab; exact rfl; exact rfl; exact rfl; exact rfl; exact rfl; exact rfl; exact rfl; exact rfl)) | (apply og_alloc; (apply op_allocX tab; exact rfl; exact rfl; (exact (rfl : _ = 4)); exact rfl)) | (apply ops_nil))) | (apply og_sat; (first | (apply sat_seq) | (apply sat_region))) | (apply pe_norm))
  refine op_callP (tt := tt) cal12 (hp2 _) rfl rfl rfl rfl rfl ?_
  repeat' (first | (apply og_ops; (first | (apply og_move; (apply op_move (tt := tt); (focus ((conv => lhs; whnf); try exact rfl)); exact rfl)) | (apply og_assign; (apply op_assign (tt := tt); (focus ((conv => lhs; whnf); try exact rfl)); exact rfl)) | (apply og_load; (apply op_lk; (apply lk_loadX tab; exact rfl; exact rfl; exact rfl; (focus ((conv => lhs; whnf; arg 1; whnf; arg 2; whnf); try skip)); (exact Nat.le_of_ble_eq_true rfl)); (intro c h; cases h); exact rfl)) | (apply og_extract; (apply op_extract (tt := tt); (focus ((conv => lhs; whnf; arg 1; whnf; arg 2; whnf); try exact rfl)); (exact trivial); exact rfl)) | (apply og_store; (apply op_storeX tab; exact rfl; exact rfl; exact rfl; exact rfl; exact rfl; exact rfl; exact rfl; exact rfl)) | (apply og_alloc; (apply op_allocX tab; exact rfl; exact rfl; (exact (rfl : _ = 5)); exact rfl)) | (apply ops_nil))) | (apply og_sat; (first | (apply sat_seq) | (apply sat_region))) | (apply pe_norm))
  refine op_callP (tt := tt) cal10 (hp3 _) rfl rfl rfl rfl rfl ?_
  repeat' (first | (apply og_ops; (first | (apply og_move; (apply op_move (tt := tt); (focus ((conv => lhs; whnf); try exact rfl)); exact rfl)) | (apply og_assign; (apply op_assign (tt := tt); (focus ((conv => lhs; whnf); try exact rfl)); exact rfl)) | (apply og_load; (apply op_lk; (apply lk_loadX tab; exact rfl; exact rfl; exact rfl; (focus ((conv => lhs; whnf; arg 1; whnf; arg 2; whnf); try skip)); (exact Nat.le_of_ble_eq_true rfl)); (intro c h; cases h); exact rfl)) | (apply og_extract; (apply op_extract (tt := tt); (focus ((conv => lhs; whnf; arg 1; whnf; arg 2; whnf); try exact rfl)); (exact trivial); exact rfl)) | (apply og_store; (apply op_storeX tab; exact rfl; exact rfl; exact rfl; exact rfl; exact rfl; exact rfl; exact rfl; exact rfl)) | (apply og_alloc; (apply op_allocX tab; exact rfl; exact rfl; (exact (rfl : _ = 6)); exact rfl)) | (apply ops_nil))) | (apply og_sat; (first | (apply sat_seq) | (apply sat_region))) | (apply pe_norm))
  refine op_callP (tt := tt) cal13 (hp4 _) rfl rfl rfl rfl rfl ?_
  repeat' (first | (apply og_ops; (first | (apply og_move; (apply op_move (tt := tt); (focus ((conv => lhs; whnf); try exact rfl)); exact rfl)) | (apply og_assign; (apply op_assign (tt := tt); (focus ((conv => lhs; whnf); try exact rfl)); exact rfl)) | (apply og_load; (apply op_lk; (apply lk_loadX tab; exact rfl; exact rfl; exact rfl; (focus ((conv => lhs; whnf; arg 1; whnf; arg 2; whnf); try skip)); (exact Nat.le_of_ble_eq_true rfl)); (intro c h; cases h); exact rfl)) | (apply og_extract; (apply op_extract (tt := tt); (focus ((conv => lhs; whnf; arg 1; whnf; arg 2; whnf); try exact rfl)); (exact trivial); exact rfl)) | (apply og_store; (apply op_storeX tab; exact rfl; exact rfl; exact rfl; exact rfl; exact rfl; exact rfl; exact rfl; exact rfl)) | (apply og_alloc; (apply op_allocX tab; exact rfl; exact rfl; (exact (rfl : _ = 7)); exact rfl)) | (apply ops_nil))) | (apply og_sat; (first | (apply sat_seq) | (apply sat_region))) | (apply pe_norm))
  refine op_callP (tt := tt) cal14 (hq1 _) rfl rfl rfl rfl rfl ?_
  repeat' (apply og_ops; (first | (apply og_guard; (apply ops_guard_t; exact (rfl : _ = some _); exact (rfl : _ = PV.bool _); (exact rfl))) | (apply og_move; (apply op_move (tt := tt); (focus ((conv => lhs; whnf); try exact rfl)); exact rfl)) | (apply og_load; (apply op_lk; (apply lk_loadX tab; exact rfl; exact rfl; exact rfl; (focus ((conv => lhs; whnf; arg 1; whnf; arg 2; whnf); try skip)); (exact Nat.le_of_ble_eq_true rfl)); (intro c h; cases h); exact rfl))))
  refine op_callP (tt := tt) cal14 (hq2 _) rfl rfl rfl rfl rfl ?_
  repeat' (apply og_ops; (first | (apply og_guard; (apply ops_guard_t; exact (rfl : _ = some _); exact (rfl : _ = PV.bool _); (exact rfl))) | (apply og_move; (apply op_move (tt := tt); (focus ((conv => lhs; whnf); try exact rfl)); exact rfl)) | (apply og_pick; (apply op_pick (tt := tt); exact (rfl : _ = PV.bool _); (refine .inl ⟨rfl, ?_⟩); (focus ((conv => lhs; whnf); try exact rfl)); exact ltn rfl))))
  refine op_callP (tt := tt) cal15 (hq3 _) rfl rfl rfl rfl rfl ?_
  repeat' (first | (apply og_ops; (first | (apply og_guard; (apply ops_guard_t; exact (rfl : _ = some _); exact (rfl : _ = PV.bool _); (assumption))) | (apply og_assign; (apply op_assign (tt := tt); (focus ((conv => lhs; whnf); try exact rfl)); exact rfl)) | (apply og_callv; (refine op_callP (tt := tt) cal17 (hq4 _) rfl rfl rfl rfl rfl ?_)) | (apply og_pick; (apply op_pick (tt := tt); exact (rfl : _ = PV.bool _); (first | refine .inl ⟨rfl, ?_⟩ | refine .inl ⟨by assumption, ?_⟩); (focus ((conv => lhs; whnf); try exact rfl)); exact ltn rfl)) | (apply ops_nil))) | (apply og_sat; (first | (apply sat_seq) | (apply sat_ret) | (apply sat_drawC (k := 33); exact mixed; decide +kernel; decide +kernel))) | (apply pe_norm) | (apply og_dd; (first | (refine dd_cons (step_callg (tt := tt) (rfl : _ = some _) (rfl : _ = PV.bool _) (by (assumption)) cal16 (hq7 _) rfl rfl rfl rfl rfl) ?_) | (refine dd_cons (step_callg (tt := tt) (rfl : _ = some _) (rfl : _ = PV.bool _) (by (assumption)) cal11 (hq8 _) rfl rfl rfl rfl rfl) ?_) | (refine dd_cons (step_callg (tt := tt) (rfl : _ = some _) (rfl : _ = PV.bool _) (by (assumption)) cal17 (hq5 _) rfl rfl rfl rfl rfl) ?_) | (refine dd_cons (step_callg (tt := tt) (rfl : _ = some _) (rfl : _ = PV.bool _) (by (assumption)) cal14 (hq6 _) rfl rfl rfl rfl rfl) ?_) | (apply dd_lk; (first | (apply lg_move; (apply lk_move (tt := tt); (focus ((conv => lhs; whnf); try exact rfl)))) | (apply lg_pick; (apply lk_pick (tt := tt); exact (rfl : _ = PV.bool _); (first | refine .inl ⟨rfl, ?_⟩ | refine .inl ⟨by assumption, ?_⟩); (focus ((conv => lhs; whnf); try exact rfl))))); exact rfl; exact rfl) | (apply dd_lkg; exact (rfl : _ = some _); exact (rfl : _ = PV.bool _); (first | exact rfl | assumption); (first | (apply lg_move; (apply lk_move (tt := tt); (focus ((conv => lhs; whnf); try exact rfl)))) | (apply lg_bin; (apply lk_bin true tab; (focus ((conv => lhs; whnf; arg 1; whnf; arg 2; whnf); try exact rfl)); (exact trivial))) | (apply lg_load; (apply lk_loadX tab; exact rfl; exact rfl; exact rfl; (focus ((conv => lhs; whnf; arg 1; whnf; arg 2; whnf); try skip)); (exact Nat.le_of_ble_eq_true rfl)))); exact rfl; exact rfl) | (apply dd_nil))))
  (change fnPost _ _ _ _ _ _ _; apply fn_endN; (exact .inr rfl); (focus (repeat' (first | (apply rr_tmp; (focus ((conv => lhs; whnf); try exact rfl)); (exact Wk.same _)) | exact rr_nil))); exact rfl; (exact rfl); exact Nat.le_refl _; (focus (repeat' (first | exact trivial | refine ⟨?_, ?_⟩))); exact hso)
  exact ⟨rfl, rfl⟩

theorem acceptActsUpto_law (c0 : List PV) (h0 : HasC (.struct [.struct [.int .u64, .sl 3 (.struct [.int .i64, .int .u64, .str])], .int .u64, .struct [.int .i64, .int .u64, .str], .struct [.int .u64, .sl 3 (.struct [.int .i64, .int .u64, .str])]]) c0) (hw : (mkV (.struct [.struct [.int .u64, .sl 3 (.struct [.int .i64, .int .u64, .str])], .int .u64, .struct [.int .i64, .int .u64, .str], .struct [.int .u64, .sl 3 (.struct [.int .i64, .int .u64, .str])]]) c0).wt ≤ 1048576) : SatCall Try.prog 5 [mkV (.struct [.struct [.int .u64, .sl 3 (.struct [.int .i64, .int .u64, .str])], .int .u64, .struct [.int .i64, .int .u64, .str], .struct [.int .u64, .sl 3 (.struct [.int .i64, .int .u64, .str])]]) c0] [] fun r _ => r = .bool true := by
  obtain ⟨_, _, rfl, ⟨_, _, rfl, ⟨p, _, rfl⟩, _, _, rfl, ⟨es, rfl, _, he⟩, rfl⟩, _, _, rfl, ⟨b, _, rfl⟩, _, _, rfl, hv, _, _, rfl, ⟨_, _, rfl, ⟨q, _, rfl⟩, _, _, rfl, ⟨ds, rfl, _, hd⟩, rfl⟩, rfl⟩ := h0
  obtain ⟨l, rfl⟩ := dec_vts he
  obtain ⟨r, rfl⟩ := dec_vts hd
  obtain ⟨v, _, rfl⟩ := dec_vt _ hv
  have h1 := wt_vt l
  have hw' : wtAll (l.map vt) < 1048576 := by simp only [mkV, List.cons_append, List.nil_append, PV.wt, wtAll] at hw; omega
  exact (acceptActs_sat (p, l) b v (q, r) (by show l.length ≤ _; omega) []).mono fun _ _ h => h.1

end Go.Proofs.Ytflgoabdgibphaa.Pv
