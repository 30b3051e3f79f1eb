/- The document's answer: what a node has; lost shards; which nodes live. -/
import Derived.Test.YtenmnbjhebmpjaaPlnA
namespace Go.Proofs.Ytenmnbjhebmpjaa.Pv
open Go
set_option linter.unusedVariables false
set_option linter.unusedSimpArgs false
set_option maxRecDepth 100000

/-- The shards that aren't there. -/
def lostTo (v : Vl) (l : List Iv) (j : Nat) : List Int := ((List.range j).filter fun i => !hasV l (v.places.getD i default) (v.id, i)).map fun i : Nat => (i : Int)
def lostP (v : Vl) (l : List Iv) : List Int := lostTo v l v.places.length
theorem lostTo_succ (v : Vl) (l : List Iv) (j : Nat) : lostTo v l (j + 1) = lostTo v l j ++ if hasV l (v.places.getD j default) (v.id, j) then [] else [(j : Int)] := by
  simp only [lostTo, List.range_succ, List.filter_append, List.map_append]
  congr 1
  rw [List.filter_cons, List.filter_nil]
  cases h : hasV l (v.places.getD j default) (v.id, j) <;> rfl
theorem lostTo_len (v : Vl) (l : List Iv) (j : Nat) : (lostTo v l j).length ≤ j := by
  unfold lostTo; rw [List.length_map]; exact Nat.le_trans (List.length_filter_le _ _) (by simp)

theorem lost_sat (v : Vl) (l : List Iv) (hv : v.places.length ≤ 1048576) (hl : okIv l) (σ : Sto) : SatCall Try.prog 23 [vl v, .sl .sh 4 (l.map iv)] σ fun r σ' => r = .sl .sh 1 ((lostP v l).map (.int .i64)) ∧ σ' = σ := by
  refine sat_fn tab Try.func23 rfl (Nat.le_of_ble_eq_true rfl) (by decide) fun hso => sat_base ?_
  repeat' (first | (apply og_ops; (first | (apply og_move; (apply op_move (tt := tt); (focus ((conv => lhs; whnf); try exact rfl)); exact rfl)) | (apply og_assign; (apply op_nil (tt := tt); exact rfl; exact ltn rfl)) | (apply og_load; (apply op_lk; (apply lk_loadX tab; exact rfl; exact rfl; exact rfl; (focus ((conv => lhs; whnf; arg 1; whnf; arg 2; whnf); try skip)); (exact trivial)); (intro c h; cases h); exact rfl)) | (apply og_callb; (apply op_len tab; (focus ((conv => lhs; whnf; arg 1; whnf; arg 2; whnf); try exact rfl)); (exact trivial); exact rfl)) | (apply og_fieldAddr; (apply op_lk; (apply lk_fieldAddrB tab; exact rfl; (focus ((conv => lhs; whnf); try exact rfl)); exact rfl; (exact (rfl : _ = 6))); (intro c h; cases h); exact rfl)) | (apply og_box; (apply op_boxX (tt := tt); (focus ((conv => lhs; whnf); try exact rfl)); exact rfl; (exact (rfl : _ = 0)); exact rfl)) | (apply ops_nil))) | (apply og_sat; (first | (apply sat_seq) | (apply sat_region) | (apply sat_block))) | (apply pe_norm))
  refine sat_loopD (fun i : Nat => [(1, .sl .sh 4 (l.map iv)), (2, .ptr (σ.length + 0) 0), (5, .sl .ow 1 ((lostTo v l i).map (.int .i64))), (9, .sl .sh 2 (v.places.map plc)), (10, .int .i64 v.places.length), (11, .int .i64 i)]) (fun _ => σ ++ [.cells (vl v).cells]) (fun i => i ≤ v.places.length) (fun i => v.places.length - i) 0 (Nat.zero_le _) ?_ rfl ?_
  · (repeat' (first | exact trivial | exact Wk.same _ | (refine Wk.eq ?_; (conv => rhs; whnf); simp <;> fail) | refine ⟨?_, ?_⟩))
  intro i hi
  rcases Nat.lt_or_ge i v.places.length with hlt | hge
  · have c1 : decide ((i : Int) < (v.places.length : Int)) = true := by simp; omega
    have hh := has_sat l (v.places.getD i default) (v.id, i) hl
    have hlen := lostTo_len v l i
    have hs := lostTo_succ v l i
    repeat' (first | (apply og_ops; (first | (apply og_move; (first | (apply op_take (d := 24) (.inr rfl); (focus ((conv => lhs; whnf); try exact rfl)); exact rfl; exact ltn rfl) | (apply op_move (tt := tt); (focus ((conv => lhs; whnf); try exact rfl)); exact rfl))) | (apply og_assign; (first | (apply op_take (.inl rfl); (focus ((conv => lhs; whnf); try exact rfl)); exact rfl; exact ltn rfl) | (apply op_assign (tt := tt); (focus ((conv => lhs; whnf); try exact rfl)); exact rfl))) | (apply og_callv; (refine op_callP (tt := tt) cal25 (hh _) rfl rfl rfl rfl rfl ?_)) | (apply og_bin; (apply op_bin true tab; (focus ((conv => lhs; whnf; arg 1; whnf; arg 2; whnf); try exact rfl)); (first | exact trivial | (simp only [InR]; omega)); exact rfl)) | (apply og_load; (first | (apply op_lk; (apply lk_loadX tab; exact rfl; exact rfl; exact rfl; (focus ((conv => lhs; whnf; arg 1; whnf; arg 2; whnf); try skip)); (first | exact trivial | exact Nat.le_of_ble_eq_true rfl)); (intro c h; cases h); exact rfl) | (apply op_load tab; (focus ((conv => lhs; whnf; arg 1; whnf; arg 2; whnf); try skip)); (exact Nat.le_of_ble_eq_true rfl); exact rfl))) | (apply og_callb; (apply op_appendX tab; (focus ((conv => lhs; whnf); try exact rfl)); exact rfl; exact rfl; exact rfl; exact rfl; exact rfl; (focus ((conv => lhs; whnf); try exact rfl)); exact rfl; (simp only [List.length_map, List.length_append, List.length_cons, List.length_nil, List.length_take]; omega); (exact rfl); exact rfl)) | (apply og_indexAddr; (refine op_indexMap (tI := 3) _ tab rfl (by (focus ((conv => lhs; whnf); try exact rfl))) (by (focus ((conv => lhs; whnf); try exact rfl))) rfl (by (omega)) (by (omega)) (by (focus ((conv => lhs; whnf); try exact rfl))) (ltn rfl) ?_)) | (apply og_fieldAddr; (apply op_lk; (apply lk_fieldAddrB tab; exact rfl; (focus ((conv => lhs; whnf); try exact rfl)); exact rfl; (exact (rfl : _ = 0))); (intro c h; cases h); exact rfl)) | (apply og_un; (apply op_un (tt := tt) true; (focus ((conv => lhs; whnf; arg 1; whnf; arg 2; whnf); try exact rfl)); (exact trivial); exact rfl)) | (apply og_store; (apply op_storeX tab; exact rfl; exact rfl; exact rfl; exact rfl; exact rfl; exact rfl; exact rfl; exact rfl)) | (apply og_build; (apply op_lk; (apply lk_build tab; exact rfl; (focus ((conv => lhs; whnf; arg 1; whnf; arg 2; whnf); try skip))); (intro c h; cases h); exact rfl)) | (apply og_buildSlice; (apply op_buildSliceX .ow tab; exact rfl; (focus ((repeat (apply opvs_cons; (focus ((conv => lhs; whnf); try exact rfl)))); exact opvs_nil)); exact rfl; exact rfl; exact rfl; exact rfl; exact rfl; exact rfl)) | (apply og_alloc; (apply op_allocX tab; exact rfl; exact rfl; (exact (rfl : _ = 1)); exact rfl)) | (apply ops_nil))) | (apply og_sat; (first | (apply sat_seq) | (apply sat_region) | (apply sat_cond_t; exact rfl; (assumption)) | (apply sat_cond; exact (rfl : _ = PV.bool _); all_goals intro hb) | (apply sat_skip) | (apply sat_block))) | (apply pe_norm) | (apply pb_norm))
    · have hb' : hasV l (v.places.getD i default) (v.id, (i : Int)) = false := by simpa using hb
      rw [hb'] at hs
      refine ⟨i + 1, by omega, by omega, ?_, ?_⟩
      · rw [hs, List.map_append]; (repeat' (first | exact trivial | exact Wk.same _ | refine ⟨?_, ?_⟩))
      · exact loopD_end 1 rfl (by simp) (stoOK_app hso (by simp [Ent.lt, ltAll, PV.lt, PV.cells, vl])) (envL_lt (by simp [PV.lt, vl]))
    · have hb' : hasV l (v.places.getD i default) (v.id, (i : Int)) = true := by simpa using hb
      rw [hb', if_pos rfl, List.append_nil] at hs
      refine ⟨i + 1, by omega, by omega, ?_, ?_⟩
      · rw [hs]; (repeat' (first | exact trivial | exact Wk.same _ | refine ⟨?_, ?_⟩))
      · exact loopD_end 1 rfl (by simp) (stoOK_app hso (by simp [Ent.lt, ltAll, PV.lt, PV.cells, vl])) (envL_lt (by simp [PV.lt, vl]))
  · have c1 : decide ((i : Int) < (v.places.length : Int)) = false := by simp; omega
    have e : i = v.places.length := by omega
    subst e
    repeat' (first | (apply og_ops; (first | (apply og_move; (apply op_move (tt := tt); (focus ((conv => lhs; whnf); try exact rfl)); exact rfl)) | (apply og_assign; (apply op_assign (tt := tt); (focus ((conv => lhs; whnf); try exact rfl)); exact rfl)) | (apply og_bin; (apply op_bin true tab; (focus ((conv => lhs; whnf; arg 1; whnf; arg 2; whnf); try exact rfl)); (exact trivial); exact rfl)) | (apply ops_nil))) | (apply og_sat; (first | (apply sat_seq) | (apply sat_region) | (apply sat_cond_f; exact rfl; (assumption)) | (apply sat_ret) | (apply sat_exit))) | (apply pe_norm) | (apply pe_exit) | (apply pb_same))
    (change fnPost _ _ _ _ _ _ _; apply fn_endN; (exact .inr rfl); (focus (repeat' (first | (apply rr_tmp; (focus ((conv => lhs; whnf); try exact rfl)); (exact Wk.same _)) | exact rr_nil))); exact rfl; (exact rfl); exact Nat.le_refl _; (focus (repeat' (first | exact trivial | refine ⟨?_, ?_⟩))); exact hso)
    exact ⟨rfl, rfl⟩

end Go.Proofs.Ytenmnbjhebmpjaa.Pv
