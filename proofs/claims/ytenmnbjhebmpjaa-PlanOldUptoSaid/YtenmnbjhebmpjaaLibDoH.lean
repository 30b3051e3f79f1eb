/- The document's answer for indexes: what a command does (moved to where it is). -/
import Derived.Test.YtenmnbjhebmpjaaLibIdxRefD
/- ENC: vl ss -/
namespace Go.Proofs.Ytenmnbjhebmpjaa.Pv
open Go
set_option linter.unusedVariables false
set_option linter.unusedSimpArgs false
set_option maxRecDepth 100000

set_option maxHeartbeats 8000000 in
theorem does_9b (x : Ix) (c : Cm) (hx : OkI x) (ho : 0 ≤ c.off ∧ c.off ≤ 1048576) (hn : 0 ≤ c.n ∧ c.n ≤ 1048576) (hi : 0 ≤ c.idx ∧ c.idx ≤ 1048576) (hcp : c.places.length ≤ 14) (n1 : c.kind ≠ 1) (n3 : c.kind ≠ 3) (n4 : c.kind ≠ 4) (n5 : c.kind ≠ 5) (n8 : c.kind ≠ 8) (h0 : ¬ volI x c.vol < 0) (n2 : c.kind ≠ 2) (n6 : c.kind ≠ 6) (n7 : c.kind ≠ 7) (h1 : ¬ (x.vols.getD (volI x c.vol).toNat default).phase < 3) (h2 : ¬ (((x.vols.getD (volI x c.vol).toNat default).places.length : Int) ≤ c.idx ∨ c.places.length ≠ 1 ∨ (c.places.getD 0 default).1 ≠ (x.vols.getD (volI x c.vol).toNat default).home)) (h6 : (x.vols.getD (volI x c.vol).toNat default).places.any (fun p => decide (p = (c.places.getD 0 default))) = true) (σ : Sto) : SatCall Try.prog 41 [ix x, cm c] σ fun r σ' => r = .tup [ix (volX x c).1, rp (volX x c).2] ∧ σ' = σ := by
  refine sat_fn tab Try.func41 rfl (Nat.le_of_ble_eq_true rfl) (by decide) fun hso => sat_base ?_
  have hl : x.vols.length ≤ 1048576 := by have := hx.vols; omega
  have hnl : x.names.length ≤ 1048576 := by have := hx.names; omega
  have k1' : (c.kind == 1) = false := by rw [beq_eq_false_iff_ne]; omega
  have k3' : (c.kind == 3) = false := by rw [beq_eq_false_iff_ne]; omega
  have k4' : (c.kind == 4) = false := by rw [beq_eq_false_iff_ne]; omega
  have k5' : (c.kind == 5) = false := by rw [beq_eq_false_iff_ne]; omega
  have k8' : (c.kind == 8) = false := by rw [beq_eq_false_iff_ne]; omega
  unfold volX
  have v1 := volAt_sat x c.vol hl
  rw [if_neg h0]
  have c0 : decide (volI x c.vol < 0) = false := decide_eq_false h0
  have i0 : 0 ≤ volI x c.vol := by omega
  have i1 : (volI x c.vol).toNat < x.vols.length := idxI_ltL (p := (fun v : Vl => v.id == c.vol)) (xs := x.vols) i0
  generalize volI x c.vol = i at *
  have hpl := hx.places _ (getD_memL i1)
  rw [if_neg n2]
  have k2' : (c.kind == 2) = false := by rw [beq_eq_false_iff_ne]; exact n2
  rw [if_neg n6]
  have k6' : (c.kind == 6) = false := by rw [beq_eq_false_iff_ne]; exact n6
  rw [if_neg n7]
  have k7' : (c.kind == 7) = false := by rw [beq_eq_false_iff_ne]; exact n7
  unfold moveX
  rw [if_neg h1]
  have d1 : decide ((x.vols.getD i.toNat default).phase < 3) = false := decide_eq_false h1
  rw [if_neg h2]
  have hil : c.idx < ((x.vols.getD i.toNat default).places.length : Int) := Int.not_le.1 fun h => h2 (.inl h)
  have hc1 : c.places.length = 1 := Classical.byContradiction fun h => h2 (.inr (.inl h))
  have hh : (c.places.getD 0 default).1 = (x.vols.getD i.toNat default).home := Classical.byContradiction fun h => h2 (.inr (.inr h))
  have d3 : decide (((x.vols.getD i.toNat default).places.length : Int) ≤ c.idx) = false := decide_eq_false (by omega)
  have d3m : decide ((((x.vols.getD i.toNat default).places.map plc).length : Int) ≤ c.idx) = false := by rw [List.length_map]; exact d3
  have d4 : ((c.places.length : Int) != 1) = false := by rw [hc1]; rfl
  have d4m : (((c.places.map plc).length : Int) != 1) = false := by rw [List.length_map]; exact d4
  have d5 : ((c.places.getD 0 default).1 != (x.vols.getD i.toNat default).home) = false := by simpa using hh
  clear h2
  rw [if_pos h6]
  repeat' (first | (apply og_ops; (first | (apply og_guard; (apply ops_guard_t; exact (rfl : _ = some _); exact (rfl : _ = PV.bool _); (assumption))) | (apply og_move; (apply op_move (tt := tt); (focus ((conv => lhs; whnf); try exact rfl)); exact rfl)) | (apply og_assign; (apply op_assign (tt := tt); (focus ((conv => lhs; whnf); try exact rfl)); exact rfl)) | (apply og_callv; (refine op_callP (tt := tt) cal52 (v1 _) rfl rfl rfl rfl rfl ?_)) | (apply og_bin; (apply op_bin true tab; (focus ((conv => lhs; whnf; arg 1; whnf; arg 2; whnf); try exact rfl)); (exact trivial); exact rfl)) | (apply og_pick; (apply op_pick (tt := tt); exact (rfl : _ = PV.bool _); (refine .inr ⟨by assumption, ?_⟩); (focus ((conv => lhs; whnf); try exact rfl)); exact ltn rfl)) | (apply og_load; (first | (apply op_lk; (apply lk_loadX tab; exact rfl; exact rfl; exact rfl; (focus ((conv => lhs; whnf; arg 1; whnf; arg 2; whnf); try skip)); (first | exact trivial | exact Nat.le_of_ble_eq_true rfl)); (intro c h; cases h); exact rfl) | (apply op_load tab; (focus ((conv => lhs; whnf; arg 1; whnf; arg 2; whnf); try skip)); (exact Nat.le_of_ble_eq_true rfl); exact rfl))) | (apply og_indexAddr; (refine op_indexMap (tI := 3) _ tab rfl (by (focus ((conv => lhs; whnf); try exact rfl))) (by (focus ((conv => lhs; whnf); try exact rfl))) rfl (by (omega)) (by (omega)) (by (focus ((conv => lhs; whnf); try exact rfl))) (ltn rfl) ?_)) | (apply og_fieldAddr; (apply op_lk; (apply lk_fieldAddrB tab; exact rfl; (focus ((conv => lhs; whnf); try exact rfl)); exact rfl; (first | exact (rfl : _ = 0) | exact (rfl : _ = 4))); (intro c h; cases h); exact rfl)) | (apply og_store; (apply op_storeX tab; exact rfl; exact rfl; exact rfl; (focus ((conv => lhs; whnf); try exact rfl)); exact rfl; exact rfl; exact rfl; exact rfl)) | (apply og_alloc; (apply op_allocX tab; exact rfl; exact rfl; (first | exact (rfl : _ = 2) | exact (rfl : _ = 3) | exact (rfl : _ = 4)); exact rfl)) | (apply og_box; (apply op_boxX (tt := tt); (focus ((conv => lhs; whnf); try exact rfl)); exact rfl; (first | exact (rfl : _ = 0) | exact (rfl : _ = 1)); exact rfl)) | (apply ops_nil))) | (apply og_sat; (first | (apply sat_seq) | (apply sat_region) | (apply sat_cond_f; exact rfl; (assumption)) | (apply sat_skip) | (apply sat_block) | (apply sat_drawC (k := 20); exact mixed; decide +kernel; decide +kernel))) | (apply pe_norm) | (apply pb_norm) | (apply og_dd; (first | (apply dd_lk; (first | (apply lg_move; (apply lk_move (tt := tt); (focus ((conv => lhs; whnf); try exact rfl)))) | (apply lg_bin; (apply lk_bin true tab; (focus ((conv => lhs; whnf; arg 1; whnf; arg 2; whnf); try exact rfl)); (exact trivial))) | (apply lg_fieldAddr; (apply lk_fieldAddrB tab; exact rfl; (focus ((conv => lhs; whnf); try exact rfl)); exact rfl; (first | exact (rfl : _ = 6) | exact (rfl : _ = 10)))) | (apply lg_load; (apply lk_loadX tab; exact rfl; exact rfl; exact rfl; (focus ((conv => lhs; whnf; arg 1; whnf; arg 2; whnf); try skip)); (exact trivial))) | (apply lg_callb; (apply lk_len tab; (focus ((conv => lhs; whnf; arg 1; whnf; arg 2; whnf); try exact rfl)); (exact trivial))) | (apply lg_pick; (apply lk_pick (tt := tt); exact (rfl : _ = PV.bool _); (refine .inr ⟨by assumption, ?_⟩); (focus ((conv => lhs; whnf); try exact rfl))))); exact rfl; exact rfl) | (apply dd_lkg; exact (rfl : _ = some _); exact (rfl : _ = PV.bool _); (assumption); (first | (apply lg_indexAddr; exact lk_indexMap (tI := 3) _ tab rfl (by (focus ((conv => lhs; whnf); try exact rfl))) (by (focus ((conv => lhs; whnf); try exact rfl))) rfl (by (omega)) (by (omega)) (by (focus ((conv => lhs; whnf); try exact rfl)))) | (apply lg_bin; (apply lk_bin true tab; (focus ((conv => lhs; whnf; arg 1; whnf; arg 2; whnf); try exact rfl)); (exact trivial))) | (apply lg_fieldAddr; (first | (apply lk_fieldAddrB tab; exact rfl; (focus ((conv => lhs; whnf); try exact rfl)); exact rfl; (first | exact (rfl : _ = 1) | exact (rfl : _ = 11))) | (apply lk_fieldAddrC tab; exact rfl; (focus ((conv => lhs; whnf); try exact rfl)); exact rfl; exact rfl; (focus ((conv => lhs; whnf); try exact rfl))))) | (apply lg_load; (first | (apply lk_loadX tab; exact rfl; exact rfl; exact rfl; (focus ((conv => lhs; whnf; arg 1; whnf; arg 2; whnf); try skip)); (exact trivial)) | (apply lk_load tab; (focus ((conv => lhs; whnf; arg 1; whnf; arg 2; whnf); try skip)); (exact trivial)))) | (apply lg_callb; (apply lk_len tab; (focus ((conv => lhs; whnf; arg 1; whnf; arg 2; whnf); try exact rfl)); (exact trivial)))); exact rfl; exact rfl) | (apply dd_nil))))
  refine sat_loopW (fun k : Nat => [(2, .ptr (σ.length + 0) 0), (3, .ptr (σ.length + 1) 0), (4, .ptr (σ.length + 2) 0), (5, .ptr (σ.length + 3) 0), (9, .int .i64 i), (10, .ptr (σ.length + 4) 0), (13, .int .i64 k)]) (fun _ => σ ++ [.cells (ix x).cells, .cells (cm c).cells, .cells [.sl .ow 9 [], .sl .ow 5 [], .sl .ow 8 []], .cells [.int .i64 0, .int .i64 0, .int .i64 0, .int .i64 0, .int .u32 0, .bool false], .cells (vl (x.vols.getD i.toNat default)).cells]) (fun k => k ≤ (x.vols.getD i.toNat default).places.length ∧ ∀ j, j < k → decide ((x.vols.getD i.toNat default).places.getD j default = (c.places.getD 0 default)) = false) (fun k => (x.vols.getD i.toNat default).places.length - k) 0 ⟨Nat.zero_le _, fun j hj => by omega⟩ ?_ rfl ?_
  · (repeat' (first | exact trivial | exact Wk.same _ | refine ⟨?_, ?_⟩))
  rintro k ⟨hk, hnk⟩
  by_cases hkl : k < (x.vols.getD i.toNat default).places.length
  · have e1 : decide ((k : Int) < ((x.vols.getD i.toNat default).places.length : Int)) = true := decide_eq_true (by omega)
    have e1m : decide ((k : Int) < (((x.vols.getD i.toNat default).places.map plc).length : Int)) = true := by rw [List.length_map]; exact e1
    repeat' (first | (apply og_ops; (first | (apply og_move; (apply op_move (tt := tt); (focus ((conv => lhs; whnf); try exact rfl)); exact rfl)) | (apply og_assign; (apply op_assign (tt := tt); (focus ((conv => lhs; whnf); try exact rfl)); exact rfl)) | (apply og_bin; (first | (apply op_bin true tab; (focus ((conv => lhs; whnf; arg 1; whnf; arg 2; whnf); try exact rfl)); (first | exact trivial | (simp only [InR]; omega)); exact rfl) | (apply op_lk; (apply lk_eql tab eqok; exact rfl; exact rfl; (focus ((conv => lhs; whnf); try exact rfl)); (focus ((conv => lhs; whnf); try exact rfl)); exact rfl; exact rfl); (intro c h; cases h); exact rfl))) | (apply og_load; (apply op_lk; (apply lk_loadX tab; exact rfl; exact rfl; exact rfl; (focus ((conv => lhs; whnf; arg 1; whnf; arg 2; whnf); try skip)); (exact trivial)); (intro c h; cases h); exact rfl)) | (apply og_callb; (apply op_len tab; (focus ((conv => lhs; whnf; arg 1; whnf; arg 2; whnf); try exact rfl)); (exact trivial); exact rfl)) | (apply og_fieldAddr; (apply op_lk; (apply lk_fieldAddrB tab; exact rfl; (focus ((conv => lhs; whnf); try exact rfl)); exact rfl; (exact (rfl : _ = 6))); (intro c h; cases h); exact rfl)) | (apply og_store; (apply op_storeX tab; exact rfl; exact rfl; exact rfl; (focus ((conv => lhs; whnf); try exact rfl)); exact rfl; exact rfl; exact rfl; exact rfl)) | (apply ops_nil))) | (apply og_sat; (first | (apply sat_seq) | (apply sat_region) | (apply sat_cond_t; exact rfl; (assumption)) | (apply sat_cond; exact (rfl : _ = PV.bool _); all_goals intro hb) | (apply sat_skip) | (apply sat_ret) | (apply sat_block) | (apply sat_drawC (k := 2); exact mixed; decide +kernel; decide +kernel) | (apply sat_drawC (k := 9); exact mixed; decide +kernel; decide +kernel))) | (apply pe_norm) | (apply pe_ret) | (apply pb_norm) | (apply pb_ret) | (apply og_dd; (first | (refine dd_cons (step_call (tt := tt) cal39 (no_sat _ _) rfl rfl rfl rfl rfl) ?_) | (apply dd_lk; (first | (apply lg_indexAddr; exact lk_indexMap (tI := 3) _ tab rfl (by (focus ((conv => lhs; whnf); try exact rfl))) (by (focus ((conv => lhs; whnf); try exact rfl))) rfl (by (omega)) (by (omega)) (by (focus ((conv => lhs; whnf); try exact rfl)))) | (apply lg_move; (apply lk_move (tt := tt); (focus ((conv => lhs; whnf); try exact rfl)))) | (apply lg_fieldAddr; (apply lk_fieldAddrB tab; exact rfl; (focus ((conv => lhs; whnf); try exact rfl)); exact rfl; (first | exact (rfl : _ = 6) | exact (rfl : _ = 11)))) | (apply lg_load; (first | (apply lk_loadX tab; exact rfl; exact rfl; exact rfl; (focus ((conv => lhs; whnf; arg 1; whnf; arg 2; whnf); try skip)); (first | exact trivial | exact Nat.le_of_ble_eq_true rfl)) | (apply lk_load tab; (focus ((conv => lhs; whnf; arg 1; whnf; arg 2; whnf); try skip)); (exact Nat.le_of_ble_eq_true rfl))))); exact rfl; exact rfl) | (apply dd_nil))))
    · (change fnPost _ _ _ _ _ _ _; apply fn_endN; (exact .inr rfl); (focus (repeat' (first | (apply rr_cell; exact rfl; exact rfl; exact rfl; (focus ((conv => lhs; whnf; arg 1; whnf; arg 2; whnf); try skip)); (exact Nat.le_of_ble_eq_true rfl)) | exact rr_nil))); exact rfl; (exact rfl); exact Nat.le_refl _; (focus (repeat' (first | exact trivial | refine ⟨?_, ?_⟩))); exact hso)
      exact ⟨rfl, rfl⟩
    · have e2 : decide ((x.vols.getD i.toNat default).places.getD k default = (c.places.getD 0 default)) = false := by rw [← eqPlR]; simpa using hb
      refine ⟨k + 1, ⟨by omega, fun j hj => ?_⟩, by omega, ?_, rfl⟩
      · by_cases e' : j = k
        · subst e'; exact e2
        · exact hnk j (by omega)
      · (repeat' (first | exact trivial | exact Wk.same _ | refine ⟨?_, ?_⟩))
  · exfalso
    rw [List.any_eq_true] at h6
    obtain ⟨p, hp, e⟩ := h6
    obtain ⟨j, hj, e'⟩ := List.getElem_of_mem hp
    have := hnk j (by omega)
    rw [List.getD_eq_getElem?_getD, List.getElem?_eq_getElem hj] at this
    rw [← e'] at e
    simp only [Option.getD_some] at this
    rw [e] at this; cases this

end Go.Proofs.Ytenmnbjhebmpjaa.Pv
