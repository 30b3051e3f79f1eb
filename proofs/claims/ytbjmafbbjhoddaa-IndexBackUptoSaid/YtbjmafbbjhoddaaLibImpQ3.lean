/- Indexes in the program itself: a shard moved. -/
import Derived.Test.YtbjmafbbjhoddaaLibImpQ2
namespace Go.Proofs.Ytbjmafbbjhoddaa.Pv
open Go
set_option linter.unusedVariables false
set_option linter.unusedSimpArgs false
set_option maxRecDepth 100000

set_option maxHeartbeats 4000000 in
theorem moveI_go (x : Ix) (c : Cm) (hx : OkI x) (hi : 0 ≤ c.idx ∧ c.idx ≤ 1048576) (hcp : c.places.length ≤ 14) (h0 : ¬ volI x c.vol < 0) (h1 : ¬ (x.vols.getD (volI x c.vol).toNat default).phase < 3) (h2 : ¬ (((x.vols.getD (volI x c.vol).toNat default).places.length : Int) ≤ c.idx ∨ c.places.length ≠ 1 ∨ (c.places.getD 0 default).1 ≠ (x.vols.getD (volI x c.vol).toNat default).home)) (hy : ¬ (x.vols.getD (volI x c.vol).toNat default).places.any (fun p => decide (p = c.places.getD 0 default)) = true) (σ : Sto) : SatCall Try.prog 76 [ix x, cm c] σ fun r σ' => r = .tup [ix (onVol x c moveX).1, rp (onVol x c moveX).2] ∧ σ' = σ := by
  refine sat_fn tab Try.func76 rfl (Nat.le_of_ble_eq_true rfl) (by decide) fun hso => sat_base ?_
  have hl := hx.vols
  have v1 := vol_sat x c.vol (by omega)
  unfold onVol
  rw [if_neg h0]
  have c0 : decide (volI x c.vol < 0) = false := decide_eq_false h0
  have i0 : 0 ≤ volI x c.vol := by omega
  have i1 : (volI x c.vol).toNat < x.vols.length := idxI_ltL (p := (fun v : Vl => v.id == c.vol)) (xs := x.vols) i0
  have hpl := hx.places _ (getD_memL i1)
  rw [volP_at h0] at v1
  generalize volI x c.vol = i at *
  generalize x.vols.getD i.toNat default = v at *
  unfold moveX
  rw [if_neg h1]
  have d1 : decide (v.phase < 3) = false := decide_eq_false h1
  repeat' (first | (apply og_ops; (first | (apply og_move; (apply op_move (tt := tt); (focus ((conv => lhs; whnf); try exact rfl)); exact rfl)) | (apply og_assign; (apply op_assign (tt := tt); (focus ((conv => lhs; whnf); try exact rfl)); exact rfl)) | (apply og_callv; (refine op_callP (tt := tt) cal41 (v1 _) rfl rfl rfl rfl rfl ?_)) | (apply og_bin; (apply op_bin true tab; (focus ((conv => lhs; whnf; arg 1; whnf; arg 2; whnf); try exact rfl)); (exact trivial); exact rfl)) | (apply og_load; (apply op_lk; (apply lk_loadX tab; exact rfl; exact rfl; exact rfl; (focus ((conv => lhs; whnf; arg 1; whnf; arg 2; whnf); try skip)); (first | exact trivial | exact Nat.le_of_ble_eq_true rfl)); (intro c h; cases h); exact rfl)) | (apply og_fieldAddr; (apply op_lk; (apply lk_fieldAddrB tab; exact rfl; (focus ((conv => lhs; whnf); try exact rfl)); exact rfl; (exact (rfl : _ = 4))); (intro c h; cases h); exact rfl)) | (apply og_extract; (apply op_extract (tt := tt); (focus ((conv => lhs; whnf; arg 1; whnf; arg 2; whnf); try exact rfl)); (exact trivial); exact rfl)) | (apply og_store; (apply op_storeX tab; exact rfl; exact rfl; exact rfl; exact rfl; exact rfl; exact rfl; exact rfl; exact rfl)) | (apply og_alloc; (apply op_allocX tab; exact rfl; exact rfl; (first | exact (rfl : _ = 2) | exact (rfl : _ = 3) | exact (rfl : _ = 4)); exact rfl)) | (apply og_box; (apply op_boxX (tt := tt); (focus ((conv => lhs; whnf); try exact rfl)); exact rfl; (first | exact (rfl : _ = 0) | exact (rfl : _ = 1)); exact rfl)) | (apply ops_nil))) | (apply og_sat; (first | (apply sat_seq) | (apply sat_region) | (apply sat_cond_f; exact rfl; (assumption)) | (apply sat_block))) | (apply pe_norm))
  refine sat_env [(2, .ptr (σ.length + 0) 0), (3, .ptr (σ.length + 1) 0), (4, .ptr (σ.length + 2) 0), (5, .ptr (σ.length + 3) 0), (6, .ptr (σ.length + 4) 0), (7, .int .i64 i)] ?_ (sat_sto (σ' := σ ++ [.cells (ix x).cells, .cells (cm c).cells, .cells [.sl .ow 9 [], .sl .ow 5 [], .sl .ow 8 []], .cells [.int .i64 0, .int .i64 0, .int .i64 0, .int .i64 0, .int .u32 0, .bool false], .cells (vl v).cells]) rfl ?_)
  · (repeat' (first | exact trivial | exact Wk.same _ | refine ⟨?_, ?_⟩))
  have hC := containsPl_sat v.places (c.places.getD 0 default) (by omega)
  rw [if_neg h2]
  have hil : c.idx < (v.places.length : Int) := Int.not_le.1 fun h => h2 (.inl h)
  have hc1 : c.places.length = 1 := Classical.byContradiction fun h => h2 (.inr (.inl h))
  have hh : (c.places.getD 0 default).1 = v.home := Classical.byContradiction fun h => h2 (.inr (.inr h))
  have d3 : decide ((v.places.length : Int) ≤ c.idx) = false := decide_eq_false (by omega)
  have d3m : decide (((v.places.map plc).length : Int) ≤ c.idx) = false := by rw [List.length_map]; exact d3
  have d4 : ((c.places.length : Int) != 1) = false := by rw [hc1]; rfl
  have d4m : (((c.places.map plc).length : Int) != 1) = false := by rw [List.length_map]; exact d4
  have d5 : ((c.places.getD 0 default).1 != v.home) = false := by simpa using hh
  have d5z : ((c.places.getD (Int.toNat 0) default).1 != v.home) = false := d5
  clear h2
  rw [if_neg hy]
  have hy' : decide (c.places.getD 0 default ∈ v.places) = false := by
    rw [← any_memP]
    cases h : v.places.any (fun p => decide (p = c.places.getD 0 default)) with
    | false => rfl
    | true => exact absurd h hy
  rw [hy'] at hC
  clear hy hy'
  have w0 := setPl_sat v.places c.idx (c.places.getD 0 default) hpl (.inr (by omega))
  rw [show setL v.places c.idx (c.places.getD 0 default) = v.places.set c.idx.toNat (c.places.getD 0 default) from if_neg (by omega)] at w0
  generalize v.places.set c.idx.toNat (c.places.getD 0 default) = ps at *
  have w1 := setVl_sat x.vols i ⟨v.id, v.home, v.mate, v.used, v.phase, v.parts, ps, v.pair, v.sum⟩ (by omega) (.inr i1)
  unfold putVol
  generalize setL x.vols i ⟨v.id, v.home, v.mate, v.used, v.phase, v.parts, ps, v.pair, v.sum⟩ = vs at *
  repeat' (first | (apply og_ops; (first | (apply og_guard; (apply ops_guard_t; exact (rfl : _ = some _); exact (rfl : _ = PV.bool _); (assumption))) | (apply og_move; (apply op_move (tt := tt); (focus ((conv => lhs; whnf); try exact rfl)); exact rfl)) | (apply og_assign; (apply op_assign (tt := tt); (focus ((conv => lhs; whnf); try exact rfl)); exact rfl)) | (apply og_callv; (first | (refine op_callP (tt := tt) cal105 (hC _) rfl rfl rfl rfl rfl ?_) | (refine op_callP (tt := tt) cal106 (w0 _) rfl rfl rfl rfl rfl ?_) | (refine op_callP (tt := tt) cal97 (w1 _) rfl rfl rfl rfl rfl ?_))) | (apply og_pick; (apply op_pick (tt := tt); exact (rfl : _ = PV.bool _); (refine .inr ⟨by assumption, ?_⟩); (focus ((conv => lhs; whnf); try exact rfl)); exact ltn rfl)) | (apply og_load; (apply op_lk; (apply lk_loadX tab; exact rfl; exact rfl; exact rfl; (focus ((conv => lhs; whnf; arg 1; whnf; arg 2; whnf); try skip)); (first | exact trivial | exact Nat.le_of_ble_eq_true rfl)); (intro c h; cases h); exact rfl)) | (apply og_fieldAddr; (apply op_lk; (apply lk_fieldAddrB tab; exact rfl; (focus ((conv => lhs; whnf); try exact rfl)); exact rfl; (first | exact (rfl : _ = 0) | exact (rfl : _ = 6))); (intro c h; cases h); exact rfl)) | (apply og_store; (apply op_storeX tab; exact rfl; exact rfl; exact rfl; (focus ((conv => lhs; whnf); try exact rfl)); exact rfl; exact rfl; exact rfl; exact rfl)) | (apply ops_nil))) | (apply og_sat; (first | (apply sat_seq) | (apply sat_region) | (apply sat_cond_f; exact rfl; (exact rfl)) | (apply sat_skip) | (apply sat_ret) | (apply sat_drawG1 (id := 10) (k := 7) (keys := [[76], [77], [78], [79], [80], [81], []]) (j := 6); exact mixed; decide +kernel; decide +kernel) | (apply sat_drawC (k := 29); exact mixed; decide +kernel; decide +kernel) | (apply sat_drawC (k := 8); exact mixed; decide +kernel; decide +kernel))) | (apply pe_norm) | (apply pb_norm) | (first | (apply so_lk; (first | (apply lg_fieldAddr; (apply lk_fieldAddrB tab; exact rfl; (focus ((conv => lhs; whnf); try exact rfl)); exact rfl; (first | exact (rfl : _ = 0) | exact (rfl : _ = 10)))) | (apply lg_load; (apply lk_loadX tab; exact rfl; exact rfl; exact rfl; (focus ((conv => lhs; whnf; arg 1; whnf; arg 2; whnf); try skip)); (first | exact trivial | exact Nat.le_of_ble_eq_true rfl))) | (apply lg_build; (apply lk_build tab; exact rfl; (focus ((conv => lhs; whnf; arg 1; whnf; arg 2; whnf); try skip))))); exact rfl; exact rfl) | (apply og_so; intro env0)) | (apply eg3; exact rfl; exact rfl; exact rfl) | (apply og_oth; (first | exact oth_nil | (apply oth_same; exact rfl) | (apply oth_no; decide +kernel) | (apply oth_yes))) | (apply og_dg; (first | (apply dg_n) | (apply dg_nil))) | (apply og_dj; (first | (apply dg_turn0_0; exact rfl; exact rfl) | (apply dg_step0_1; exact rfl; exact rfl; exact rfl; exact rfl))) | (apply og_dd; (first | (apply dd_lk; (first | (apply lg_indexAddr; exact lk_indexMap (tI := 3) _ tab rfl (by (focus ((conv => lhs; whnf); try exact rfl))) (by (focus ((conv => lhs; whnf); try exact rfl))) rfl (by (omega)) (by (omega)) (by (focus ((conv => lhs; whnf); try exact rfl)))) | (apply lg_move; (apply lk_move (tt := tt); (focus ((conv => lhs; whnf); try exact rfl)))) | (apply lg_bin; (apply lk_bin true tab; (focus ((conv => lhs; whnf; arg 1; whnf; arg 2; whnf); try exact rfl)); (exact trivial))) | (apply lg_fieldAddr; (apply lk_fieldAddrB tab; exact rfl; (focus ((conv => lhs; whnf); try exact rfl)); exact rfl; (first | exact (rfl : _ = 6) | exact (rfl : _ = 10) | exact (rfl : _ = 11)))) | (apply lg_load; (first | (apply lk_loadX tab; exact rfl; exact rfl; exact rfl; (focus ((conv => lhs; whnf; arg 1; whnf; arg 2; whnf); try skip)); (exact trivial)) | (apply lk_load tab; (focus ((conv => lhs; whnf; arg 1; whnf; arg 2; whnf); try skip)); (exact Nat.le_of_ble_eq_true rfl)))) | (apply lg_callb; (apply lk_len tab; (focus ((conv => lhs; whnf; arg 1; whnf; arg 2; whnf); try exact rfl)); (exact trivial))) | (apply lg_pick; (apply lk_pick (tt := tt); exact (rfl : _ = PV.bool _); (refine .inr ⟨by assumption, ?_⟩); (focus ((conv => lhs; whnf); try exact rfl))))); exact rfl; exact rfl) | (apply dd_lkg; exact (rfl : _ = some _); exact (rfl : _ = PV.bool _); (assumption); (first | (apply lg_indexAddr; exact lk_indexMap (tI := 3) _ tab rfl (by (focus ((conv => lhs; whnf); try exact rfl))) (by (focus ((conv => lhs; whnf); try exact rfl))) rfl (by (omega)) (by (omega)) (by (focus ((conv => lhs; whnf); try exact rfl)))) | (apply lg_bin; (apply lk_bin true tab; (focus ((conv => lhs; whnf; arg 1; whnf; arg 2; whnf); try exact rfl)); (exact trivial))) | (apply lg_fieldAddr; (first | (apply lk_fieldAddrB tab; exact rfl; (focus ((conv => lhs; whnf); try exact rfl)); exact rfl; (first | exact (rfl : _ = 1) | exact (rfl : _ = 6) | exact (rfl : _ = 11))) | (apply lk_fieldAddrC tab; exact rfl; (focus ((conv => lhs; whnf); try exact rfl)); exact rfl; exact rfl; (focus ((conv => lhs; whnf); try exact rfl))))) | (apply lg_load; (first | (apply lk_loadX tab; exact rfl; exact rfl; exact rfl; (focus ((conv => lhs; whnf; arg 1; whnf; arg 2; whnf); try skip)); (exact trivial)) | (apply lk_load tab; (focus ((conv => lhs; whnf; arg 1; whnf; arg 2; whnf); try skip)); (first | exact trivial | exact Nat.le_of_ble_eq_true rfl)))) | (apply lg_callb; (apply lk_len tab; (focus ((conv => lhs; whnf; arg 1; whnf; arg 2; whnf); try exact rfl)); (exact trivial)))); exact rfl; exact rfl) | (apply dd_nil))))
  all_goals first
    | (exfalso
       exact absurd hh (by simpa using hb))
    | ((change fnPost _ _ _ _ _ _ _; apply fn_endN; (exact .inr rfl); (focus (repeat' (first | (apply rr_cell; exact rfl; exact rfl; exact rfl; (focus ((conv => lhs; whnf; arg 1; whnf; arg 2; whnf); try skip)); (exact Nat.le_of_ble_eq_true rfl)) | exact rr_nil))); exact rfl; (exact rfl); exact Nat.le_refl _; (focus (repeat' (first | exact trivial | refine ⟨?_, ?_⟩))); exact hso)
       exact ⟨rfl, rfl⟩)

end Go.Proofs.Ytbjmafbbjhoddaa.Pv
