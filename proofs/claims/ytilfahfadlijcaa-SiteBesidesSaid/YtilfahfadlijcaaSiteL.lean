/- The laws of the rings and of what is spread: the walks. -/
import Derived.Test.YtilfahfadlijcaaSiteK
import Derived.Test.YtilfahfadlijcaaSiteE
import Derived.Test.YtilfahfadlijcaaPvZi
namespace Go.Proofs.Ytilfahfadlijcaa.Pv
open Go
set_option linter.unusedVariables false
set_option linter.unusedSimpArgs false
set_option maxRecDepth 100000

theorem spreadP_len (vol r many nodes : Int) (live : List Bool) : (spreadP vol r many nodes live).1.length ≤ 64 := by
  have := ringP_len vol nodes live
  simp only [spreadP]
  split
  · simp
  · split
    · simp
    · simp; omega

theorem siteRings_sat (vol r many nodes : Int) (live : List Bool) (σ : Sto) : SatCall Try.prog 5 [.agg [.int .i64 vol, .int .i64 r, .int .i64 many, .int .i64 nodes, .sl .sh 1 (live.map .bool)]] σ fun x σ' => x = .bool true ∧ σ' = σ := by
  refine sat_fn tab Try.func5 rfl (Nat.le_of_ble_eq_true rfl) (by decide) fun hso => sat_base ?_
  have h1 := ringP_len vol nodes live
  have h2 := spreadP_len vol r many nodes live
  repeat' (first | (apply og_ops; (first | (apply og_guard; (first | (apply ops_guard_t; exact (rfl : _ = some _); exact (rfl : _ = PV.bool _); (first | exact rfl | assumption)) | (apply ops_guard_f'; exact (rfl : _ = some _); exact (rfl : _ = PV.bool _); (first | exact rfl | assumption); exact ltn rfl) | (apply ops_gsplit; exact (rfl : _ = some _); exact (rfl : _ = PV.bool _); all_goals intro hb))) | (apply og_move; (apply op_move (tt := tt); (focus ((conv => lhs; whnf); try exact rfl)); exact rfl)) | (apply og_assign; (apply op_assign (tt := tt); (focus ((conv => lhs; whnf); try exact rfl)); exact rfl)) | (apply og_callv; (first | (refine op_callP (tt := tt) cal9 (shown_sat _) rfl rfl rfl rfl rfl ?_) | (refine op_callP (tt := tt) cal10 (Ring_sat _ _ _ _) rfl rfl rfl rfl rfl ?_) | (refine op_callP (tt := tt) cal14 (refRing_sat _ _ _ _) rfl rfl rfl rfl rfl ?_) | (refine op_callP (tt := tt) cal13 (ints_sat _ _ ?_ _) rfl rfl rfl rfl rfl ?_; (omega)) | (refine op_callP (tt := tt) cal15 (spread_sat _ _ _ _ _ _) rfl rfl rfl rfl rfl ?_) | (refine op_callP (tt := tt) cal16 (refSpread_sat _ _ _ _ _ _) rfl rfl rfl rfl rfl ?_) | (refine op_callP (tt := tt) cal17 (places_sat _ _ ?_ _) rfl rfl rfl rfl rfl ?_; (omega)))) | (apply og_bin; (apply op_bin true tab; (focus ((conv => lhs; whnf; arg 1; whnf; arg 2; whnf); try exact rfl)); (exact trivial); exact rfl)) | (apply og_pick; (apply op_pick (tt := tt); exact (rfl : _ = PV.bool _); (first | refine .inl ⟨rfl, ?_⟩ | refine .inr ⟨rfl, ?_⟩ | refine .inl ⟨by assumption, ?_⟩ | refine .inr ⟨by assumption, ?_⟩); (focus ((conv => lhs; whnf); try exact rfl)); exact ltn rfl)) | (apply og_load; (apply op_lk; (apply lk_loadX tab; exact rfl; exact rfl; exact rfl; (focus ((conv => lhs; whnf; arg 1; whnf; arg 2; whnf); try skip)); (exact trivial)); (intro c h; cases h); exact rfl)) | (apply og_fieldAddr; (apply op_lk; (apply lk_fieldAddrB tab; exact rfl; (focus ((conv => lhs; whnf); try exact rfl)); exact rfl; (first | exact (rfl : _ = 0) | exact (rfl : _ = 1) | exact (rfl : _ = 2) | exact (rfl : _ = 3) | exact (rfl : _ = 4))); (intro c h; cases h); exact rfl)) | (apply og_extract; (apply op_extract (tt := tt); (focus ((conv => lhs; whnf; arg 1; whnf; arg 2; whnf); try exact rfl)); (exact trivial); exact rfl)) | (apply og_box; (apply op_boxX (tt := tt); (focus ((conv => lhs; whnf); try exact rfl)); exact rfl; (exact (rfl : _ = 0)); exact rfl)) | (apply ops_nil))) | (apply og_sat; (first | (apply sat_seq) | (apply sat_region) | (apply sat_ret))) | (apply pe_norm))
  all_goals (change fnPost _ _ _ _ _ _ _; apply fn_end1; (exact .inr rfl); exact rfl; (focus ((conv => lhs; whnf); try exact rfl)); exact Wk.same _; exact rfl; exact rfl; exact Nat.le_refl _; exact trivial; exact hso)
  all_goals refine ⟨?_, rfl⟩
  all_goals simp_all

theorem siteRings_law (c0 : List PV) (h0 : HasC (.struct [.int .i64, .int .i64, .int .i64, .int .i64, .sl 1 .bool]) c0) :
    SatCall Try.prog 5 [mkV (.struct [.int .i64, .int .i64, .int .i64, .int .i64, .sl 1 .bool]) c0] [] fun r _ => r = .bool true := by
  obtain ⟨_, _, rfl, ⟨a, _, rfl⟩, _, _, rfl, ⟨b, _, rfl⟩, _, _, rfl, ⟨c, _, rfl⟩, _, _, rfl, ⟨d, _, rfl⟩, _, _, rfl, ⟨es, rfl, _, he⟩, rfl⟩ := h0
  obtain ⟨bs, rfl, _⟩ := elems_of PV.bool (fun _ => True) dec_bool he
  exact (siteRings_sat a b c d bs []).mono fun _ _ h => h.1

end Go.Proofs.Ytilfahfadlijcaa.Pv
