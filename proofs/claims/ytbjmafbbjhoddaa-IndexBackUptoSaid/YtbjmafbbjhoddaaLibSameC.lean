/- A command is the same as itself. -/
import Derived.Test.YtbjmafbbjhoddaaLibImpM
import Derived.Test.YtbjmafbbjhoddaaLibSiteI
namespace Go.Proofs.Ytbjmafbbjhoddaa.Pv
open Go
set_option linter.unusedVariables false
set_option linter.unusedSimpArgs false
set_option maxRecDepth 100000

set_option maxHeartbeats 2000000 in
theorem sameCmd_refl (c : Cm) (hl : c.places.length ≤ 1000000) (σ : Sto) : SatCall Try.prog 31 [cm c, cm c] σ fun x σ' => x = .bool true ∧ σ' = σ := by
  refine sat_fn tab Try.func31 rfl (Nat.le_of_ble_eq_true rfl) (by decide) fun hso => sat_base ?_
  have q1 := places_sat c.places c.places hl
  rw [decide_eq_true rfl] at q1
  have f1 : (c.kind == c.kind) = true := beq_self_eq_true _
  have f2 : (c.client == c.client) = true := beq_self_eq_true _
  have f3 : (c.seq == c.seq) = true := beq_self_eq_true _
  have f4 : beqS c.name c.name = true := beqS_iff.2 rfl
  have f5 : (c.vol == c.vol) = true := beq_self_eq_true _
  have f6 : (c.off == c.off) = true := beq_self_eq_true _
  have f7 : (c.n == c.n) = true := beq_self_eq_true _
  have f8 : (c.sum == c.sum) = true := beq_self_eq_true _
  have f9 : (c.region == c.region) = true := beq_self_eq_true _
  have f10 : (c.mate == c.mate) = true := beq_self_eq_true _
  have f11 : (c.idx == c.idx) = true := beq_self_eq_true _
  repeat' (first | (apply og_ops; (first | (apply og_guard; (apply ops_guard_t; exact (rfl : _ = some _); exact (rfl : _ = PV.bool _); (first | exact rfl | assumption))) | (apply og_move; (apply op_move (tt := tt); (focus ((conv => lhs; whnf); try exact rfl)); exact rfl)) | (apply og_assign; (apply op_assign (tt := tt); (focus ((conv => lhs; whnf); try exact rfl)); exact rfl)) | (apply og_callv; (refine op_callP (tt := tt) cal62 (q1 _) rfl rfl rfl rfl rfl ?_)) | (apply og_bin; (apply op_bin true tab; (focus ((conv => lhs; whnf; arg 1; whnf; arg 2; whnf); try exact rfl)); (exact trivial); exact rfl)) | (apply og_pick; (apply op_pick (tt := tt); exact (rfl : _ = PV.bool _); (first | refine .inl ⟨rfl, ?_⟩ | refine .inl ⟨by assumption, ?_⟩); (focus ((conv => lhs; whnf); try exact rfl)); exact ltn rfl)) | (apply og_load; (apply op_lk; (apply lk_loadX tab; exact rfl; exact rfl; exact rfl; (focus ((conv => lhs; whnf; arg 1; whnf; arg 2; whnf); try skip)); (exact trivial)); (intro c h; cases h); exact rfl)) | (apply og_fieldAddr; (apply op_lk; (apply lk_fieldAddrB tab; exact rfl; (focus ((conv => lhs; whnf); try exact rfl)); exact rfl; (first | exact (rfl : _ = 0) | exact (rfl : _ = 1) | exact (rfl : _ = 2) | exact (rfl : _ = 3) | exact (rfl : _ = 4) | exact (rfl : _ = 5) | exact (rfl : _ = 6) | exact (rfl : _ = 7) | exact (rfl : _ = 8) | exact (rfl : _ = 9) | exact (rfl : _ = 10) | exact (rfl : _ = 11))); (intro c h; cases h); exact rfl)) | (apply og_box; (apply op_boxX (tt := tt); (focus ((conv => lhs; whnf); try exact rfl)); exact rfl; (first | exact (rfl : _ = 0) | exact (rfl : _ = 1)); exact rfl)) | (apply ops_nil))) | (apply og_sat; (first | (apply sat_seq) | (apply sat_region) | (apply sat_ret))) | (apply pe_norm))
  (change fnPost _ _ _ _ _ _ _; apply fn_endN; (exact .inr rfl); (focus (repeat' (first | (apply rr_tmp; (focus ((conv => lhs; whnf); try exact rfl)); (exact Wk.same _)) | exact rr_nil))); exact rfl; (exact rfl); exact Nat.le_refl _; (focus (repeat' (first | exact trivial | refine ⟨?_, ?_⟩))); exact hso)
  refine ⟨?_, rfl⟩
  show PV.bool _ = _
  rw [f11]

end Go.Proofs.Ytbjmafbbjhoddaa.Pv
