/- Which nodes live; which keys are old; the answer's lost shards. -/
import Derived.Test.YtenmnbjhebmpjaaPlnD
namespace Go.Proofs.Ytenmnbjhebmpjaa.Pv
open Go
set_option linter.unusedVariables false
set_option linter.unusedSimpArgs false
set_option maxRecDepth 100000

def lvTo (l : List Iv) (region : Int) (k i : Nat) : List Bool := liveTo l region i ++ List.replicate (k - i) false
theorem lvTo_set (l : List Iv) (region : Int) {k i : Nat} (h : i < k) : (lvTo l region k i).set i (livesV l (region, i)) = lvTo l region k (i + 1) := by
  have e : k - i = (k - (i + 1)) + 1 := by omega
  rw [lvTo, lvTo, e, List.replicate_succ, List.set_append_right _ _ (by rw [liveTo_len]; exact Nat.le_refl _), liveTo_len, Nat.sub_self, List.set_cons_zero, liveTo_succ, List.append_assoc]
  rfl

theorem live_sat (l : List Iv) (region nodes : Int) (hl : l.length ≤ 1048576) (σ : Sto) : SatCall Try.prog 20 [.sl .sh 4 (l.map iv), .int .i64 region, .int .i64 nodes] σ fun x σ' => x = .sl .sh 1 ((liveP l region nodes).map .bool) ∧ σ' = σ := by
  refine sat_fn tab Try.func20 rfl (Nat.le_of_ble_eq_true rfl) (by decide) fun hso => sat_base ?_
  by_cases h1 : nodes < 0
  · have c1 : decide (nodes < 0) = true := decide_eq_true h1
    have e : liveP l region nodes = [] := if_pos (.inl h1)
    rw [e]
    repeat' (first | (apply og_ops; (first | (apply og_guard; (apply ops_guard_f'; exact (rfl : _ = some _); exact (rfl : _ = PV.bool _); (assumption); exact ltn rfl)) | (apply og_move; (apply op_move (tt := tt); (focus ((conv => lhs; whnf); try exact rfl)); exact rfl)) | (apply og_assign; (apply op_nil (tt := tt); exact rfl; exact ltn rfl)) | (apply og_bin; (apply op_bin true tab; (focus ((conv => lhs; whnf; arg 1; whnf; arg 2; whnf); try exact rfl)); (exact trivial); exact rfl)) | (apply og_pick; (apply op_pick (tt := tt); exact (rfl : _ = PV.bool _); (refine .inl ⟨by assumption, ?_⟩); (focus ((conv => lhs; whnf); try exact rfl)); exact ltn rfl)) | (apply ops_nil))) | (apply og_sat; (first | (apply sat_seq) | (apply sat_region) | (apply sat_cond_t; exact rfl; (exact rfl)) | (apply sat_ret))) | (apply pe_norm) | (apply pe_ret))
    (change fnPost _ _ _ _ _ _ _; apply fn_endN; (exact .inr rfl); (focus (repeat' (first | (apply rr_tmp; (focus ((conv => lhs; whnf); try exact rfl)); (exact Wk.sh)) | exact rr_nil))); exact rfl; (exact rfl); exact Nat.le_refl _; (focus (repeat' (first | exact trivial | refine ⟨?_, ?_⟩))); exact hso)
    exact ⟨rfl, rfl⟩
  have c1 : decide (nodes < 0) = false := decide_eq_false h1
  by_cases h2 : 64 < nodes
  · have c2 : decide (64 < nodes) = true := decide_eq_true h2
    have e : liveP l region nodes = [] := if_pos (.inr h2)
    rw [e]
    repeat' (first | (apply og_ops; (first | (apply og_guard; (apply ops_guard_t; exact (rfl : _ = some _); exact (rfl : _ = PV.bool _); (assumption))) | (apply og_move; (apply op_move (tt := tt); (focus ((conv => lhs; whnf); try exact rfl)); exact rfl)) | (apply og_assign; (apply op_nil (tt := tt); exact rfl; exact ltn rfl)) | (apply og_bin; (apply op_bin true tab; (focus ((conv => lhs; whnf; arg 1; whnf; arg 2; whnf); try exact rfl)); (exact trivial); exact rfl)) | (apply og_pick; (apply op_pick (tt := tt); exact (rfl : _ = PV.bool _); (refine .inr ⟨by assumption, ?_⟩); (focus ((conv => lhs; whnf); try exact rfl)); exact ltn rfl)) | (apply ops_nil))) | (apply og_sat; (first | (apply sat_seq) | (apply sat_region) | (apply sat_cond_t; exact rfl; (assumption)) | (apply sat_ret))) | (apply pe_norm) | (apply pe_ret))
    (change fnPost _ _ _ _ _ _ _; apply fn_endN; (exact .inr rfl); (focus (repeat' (first | (apply rr_tmp; (focus ((conv => lhs; whnf); try exact rfl)); (exact Wk.sh)) | exact rr_nil))); exact rfl; (exact rfl); exact Nat.le_refl _; (focus (repeat' (first | exact trivial | refine ⟨?_, ?_⟩))); exact hso)
    exact ⟨rfl, rfl⟩
  have c2 : decide (64 < nodes) = false := decide_eq_false h2
  have e : liveP l region nodes = liveTo l region nodes.toNat := if_neg (by omega)
  rw [e]
  obtain ⟨k, rfl⟩ : ∃ k : Nat, nodes = k := ⟨nodes.toNat, by omega⟩
  rw [Int.toNat_natCast]
  repeat' (first | (apply og_ops; (first | (apply og_guard; (apply ops_guard_t; exact (rfl : _ = some _); exact (rfl : _ = PV.bool _); (exact rfl))) | (apply og_move; (apply op_move (tt := tt); (focus ((conv => lhs; whnf); try exact rfl)); exact rfl)) | (apply og_assign; (first | (apply op_nil (tt := tt); exact rfl; exact ltn rfl) | (apply op_assign (tt := tt); (focus ((conv => lhs; whnf); try exact rfl)); exact rfl))) | (apply og_bin; (apply op_bin true tab; (focus ((conv => lhs; whnf; arg 1; whnf; arg 2; whnf); try exact rfl)); (exact trivial); exact rfl)) | (apply og_pick; (apply op_pick (tt := tt); exact (rfl : _ = PV.bool _); (refine .inr ⟨rfl, ?_⟩); (focus ((conv => lhs; whnf); try exact rfl)); exact ltn rfl)) | (apply og_callb; (apply op_len tab; (focus ((conv => lhs; whnf; arg 1; whnf; arg 2; whnf); try exact rfl)); (exact trivial); exact rfl)) | (apply og_makeSlice; (apply op_makeMX _ _ tab; exact rfl; exact rfl; exact rfl; (focus ((conv => lhs; whnf); try exact rfl)); (focus ((conv => lhs; whnf); try exact rfl)); exact rfl; exact rfl; (omega); (exact (rfl : _ = 0)); exact rfl)) | (apply ops_nil))) | (apply og_sat; (first | (apply sat_seq) | (apply sat_region) | (apply sat_cond_f; exact rfl; (assumption)) | (apply sat_skip) | (apply sat_block))) | (apply pe_norm))
  refine sat_loopD (fun i : Nat => [(0, .sl .sh 4 (l.map iv)), (1, .int .i64 region), (7, .bsl (σ.length + 0) 0 1 k k), (18, .int .i64 k), (19, .int .i64 i)]) (fun i => σ ++ [.cells ((lvTo l region k i).map .bool)]) (fun i => i ≤ k) (fun i => k - i) 0 (Nat.zero_le _) ?_ ?_ ?_
  · (repeat' (first | exact trivial | exact Wk.same _ | refine ⟨?_, ?_⟩))
  · rfl
  intro i hi
  have hn : (lvTo l region k i).length = k := by simp [lvTo, liveTo_len]; omega
  rcases Nat.lt_or_ge i k with hlt | hge
  · have d1 : decide ((i : Int) < (k : Int)) = true := decide_eq_true (by omega)
    have hh := planLives_sat l (region, (i : Int)) hl
    repeat' (first | (apply og_ops; (first | (apply og_move; (apply op_move (tt := tt); (focus ((conv => lhs; whnf); try exact rfl)); exact rfl)) | (apply og_assign; (apply op_assign (tt := tt); (focus ((conv => lhs; whnf); try exact rfl)); exact rfl)) | (apply og_callv; (refine op_callP (tt := tt) cal48 (hh _) rfl rfl rfl rfl rfl ?_)) | (apply og_bin; (apply op_bin true tab; (focus ((conv => lhs; whnf; arg 1; whnf; arg 2; whnf); try exact rfl)); (first | exact trivial | (simp only [InR]; omega)); exact rfl)) | (apply og_indexAddr; (apply op_lk; (apply lk_idxB (tI := 3) tab; exact rfl; (focus ((conv => lhs; whnf); try exact rfl)); (focus ((conv => lhs; whnf); try exact rfl)); exact rfl; (omega)); (intro c h; cases h); exact rfl)) | (apply og_store; (apply op_storeMX _ tab; exact rfl; exact rfl; exact rfl; (exact (rfl : _ = some (Ent.cells (List.map _ _)))); exact rfl; exact rfl; exact rfl; (omega))) | (apply og_build; (apply op_lk; (apply lk_build tab; exact rfl; (focus ((conv => lhs; whnf; arg 1; whnf; arg 2; whnf); try skip))); (intro c h; cases h); exact rfl)) | (apply ops_nil))) | (apply og_sat; (first | (apply sat_seq) | (apply sat_region) | (apply sat_cond_t; exact rfl; (assumption)) | (apply sat_skip) | (apply sat_block))) | (apply pe_norm) | (apply pb_norm))
    refine ⟨i + 1, by omega, by omega, ?_, ?_⟩
    · (repeat' (first | exact trivial | exact Wk.same _ | refine ⟨?_, ?_⟩))
    · refine ⟨[], ?_, .inl rfl⟩
      rw [← lvTo_set l region hlt, List.append_nil]
      simp
  · have d1 : decide ((i : Int) < (k : Int)) = false := decide_eq_false (by omega)
    have e : i = k := by omega
    subst e
    have eu : lvTo l region i i = liveTo l region i := by simp [lvTo]
    rw [eu]
    refine sat_freeze [(7, .sl .sh 1 ((liveTo l region i).map .bool)), (18, .int .i64 i), (19, .int .i64 i)] (σ ++ [.gone]) (i := σ.length) (rs := []) (by rw [List.append_nil]; exact get_last) ?_ ⟨?_, frz_same, frz_same, trivial⟩ (by rw [set_last]; exact FrzS.refl _) ?_
    · intro c hc; obtain ⟨x, _, rfl⟩ := List.mem_map.1 hc; rfl
    · have := frz_bsl (f := PV.bool) (fun _ => rfl) (i := σ.length) (cap := i) (xs := liveTo l region i)
      rw [liveTo_len] at this
      exact this
    repeat' (first | (apply og_ops; (first | (apply og_move; (apply op_move (tt := tt); (focus ((conv => lhs; whnf); try exact rfl)); exact rfl)) | (apply og_assign; (apply op_assign (tt := tt); (focus ((conv => lhs; whnf); try exact rfl)); exact rfl)) | (apply og_bin; (apply op_bin true tab; (focus ((conv => lhs; whnf; arg 1; whnf; arg 2; whnf); try exact rfl)); (exact trivial); exact rfl)) | (apply ops_nil))) | (apply og_sat; (first | (apply sat_seq) | (apply sat_region) | (apply sat_cond_f; exact rfl; (assumption)) | (apply sat_ret) | (apply sat_exit))) | (apply pe_norm) | (apply pe_exit) | (apply pb_same))
    (change fnPost _ _ _ _ _ _ _; apply fn_endN; (exact .inr rfl); (focus (repeat' (first | (apply rr_tmp; (focus ((conv => lhs; whnf); try exact rfl)); (exact Wk.same _)) | exact rr_nil))); exact rfl; (exact rfl); exact Nat.le_refl _; (focus (repeat' (first | exact trivial | refine ⟨?_, ?_⟩))); exact hso)
    exact ⟨rfl, rfl⟩

/-- Is a key one that is not needed any more? -/
def oldP (x : Ix) (k : Int × Int) : Bool := decide (0 ≤ volI x k.1) && ((volP x k.1).phase == 4) && decide (100 ≤ k.2)

theorem old_sat (x : Ix) (k : Int × Int) (hl : x.vols.length ≤ 1048576) (σ : Sto) : SatCall Try.prog 13 [ix x, plc k] σ fun r σ' => r = .bool (oldP x k) ∧ σ' = σ := by
  refine sat_fn tab Try.func13 rfl (Nat.le_of_ble_eq_true rfl) (by decide) fun hso => sat_base ?_
  repeat' (first | (apply og_ops; (first | (apply og_guard; (first | (apply ops_guard_t; exact (rfl : _ = some _); exact (rfl : _ = PV.bool _); (assumption)) | (apply ops_guard_f'; exact (rfl : _ = some _); exact (rfl : _ = PV.bool _); (first | exact rfl | assumption); exact ltn rfl) | (apply ops_gsplit; exact (rfl : _ = some _); exact (rfl : _ = PV.bool _); all_goals intro hb))) | (apply og_move; (apply op_move (tt := tt); (focus ((conv => lhs; whnf); try exact rfl)); exact rfl)) | (apply og_assign; (apply op_assign (tt := tt); (focus ((conv => lhs; whnf); try exact rfl)); exact rfl)) | (apply og_callv; (refine op_callP (tt := tt) cal37 (Vol_sat _ _ ?_ _) rfl rfl rfl rfl rfl ?_; (assumption))) | (apply og_bin; (apply op_bin true tab; (focus ((conv => lhs; whnf; arg 1; whnf; arg 2; whnf); try exact rfl)); (exact trivial); exact rfl)) | (apply og_pick; (apply op_pick (tt := tt); exact (rfl : _ = PV.bool _); (first | refine .inr ⟨rfl, ?_⟩ | refine .inl ⟨by assumption, ?_⟩ | refine .inr ⟨by assumption, ?_⟩); (focus ((conv => lhs; whnf); try exact rfl)); exact ltn rfl)) | (apply og_load; (apply op_lk; (apply lk_loadX tab; exact rfl; exact rfl; exact rfl; (focus ((conv => lhs; whnf; arg 1; whnf; arg 2; whnf); try skip)); (first | exact trivial | exact Nat.le_of_ble_eq_true rfl)); (intro c h; cases h); exact rfl)) | (apply og_fieldAddr; (apply op_lk; (apply lk_fieldAddrB tab; exact rfl; (focus ((conv => lhs; whnf); try exact rfl)); exact rfl; (first | exact (rfl : _ = 0) | exact (rfl : _ = 1) | exact (rfl : _ = 4))); (intro c h; cases h); exact rfl)) | (apply og_extract; (apply op_extract (tt := tt); (focus ((conv => lhs; whnf; arg 1; whnf; arg 2; whnf); try exact rfl)); (exact trivial); exact rfl)) | (apply og_store; (apply op_storeX tab; exact rfl; exact rfl; exact rfl; exact rfl; exact rfl; exact rfl; exact rfl; exact rfl)) | (apply og_alloc; (apply op_allocX tab; exact rfl; exact rfl; (exact (rfl : _ = 2)); exact rfl)) | (apply og_box; (apply op_boxX (tt := tt); (focus ((conv => lhs; whnf); try exact rfl)); exact rfl; (first | exact (rfl : _ = 0) | exact (rfl : _ = 1)); exact rfl)) | (apply ops_nil))) | (apply og_sat; (first | (apply sat_seq) | (apply sat_region) | (apply sat_ret))) | (apply pe_norm))
  all_goals (change fnPost _ _ _ _ _ _ _; apply fn_endN; (exact .inr rfl); (focus (repeat' (first | (apply rr_tmp; (focus ((conv => lhs; whnf); try exact rfl)); (exact Wk.same _)) | exact rr_nil))); exact rfl; (exact rfl); exact Nat.le_refl _; (focus (repeat' (first | exact trivial | refine ⟨?_, ?_⟩))); exact hso)
  all_goals refine ⟨?_, rfl⟩
  all_goals simp [oldP, resOf, *] at *
  all_goals simp [*]

end Go.Proofs.Ytenmnbjhebmpjaa.Pv
