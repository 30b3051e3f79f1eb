/- Package site's answer: rings, rows compared; what is spread. -/
import Derived.Test.YtenmnbjhebmpjaaLibSiteA
namespace Go.Proofs.Ytenmnbjhebmpjaa.Pv
open Go
set_option linter.unusedVariables false
set_option linter.unusedSimpArgs false
set_option maxRecDepth 100000

/-- A place: its region, its node. -/
def plc (p : Int × Int) : PV := .agg [.int .i64 p.1, .int .i64 p.2]

/-- The places, and the error's number. -/
def spreadP (vol r many nodes : Int) (live : List Bool) : List (Int × Int) × Int :=
  if ¬ (1 ≤ r ∧ r ≤ 3) ∨ many < 0 ∨ vol < 0 ∨ ¬ (1 ≤ nodes ∧ nodes ≤ 64) then ([], 1)
  else if ((ringP vol nodes live).length : Int) < many then ([], 10)
  else (((ringP vol nodes live).take many.toNat).map fun n => (r, n), 0)

theorem spread_sat (vol r many nodes : Int) (live : List Bool) (σ : Sto) : SatCall Try.prog 45 [.int .i64 vol, .int .i64 r, .int .i64 many, .int .i64 nodes, .sl .sh 1 (live.map .bool)] σ fun x σ' =>
    x = .tup [.sl .sh 2 ((spreadP vol r many nodes live).1.map plc), .int .i64 (spreadP vol r many nodes live).2] ∧ σ' = σ := by
  refine sat_fn tab Try.func45 rfl (Nat.le_of_ble_eq_true rfl) (by decide) fun hso => ?_
  repeat' (first | (apply og_ops; (first | (apply og_guard; (first | (apply ops_guard_t; exact (rfl : _ = some _); exact (rfl : _ = PV.bool _); (assumption)) | (apply ops_guard_f'; exact (rfl : _ = some _); exact (rfl : _ = PV.bool _); (first | exact rfl | assumption); exact ltn rfl) | (apply ops_gsplit; exact (rfl : _ = some _); exact (rfl : _ = PV.bool _); all_goals intro hb))) | (apply og_move; (apply op_move (tt := tt); (focus ((conv => lhs; whnf); try exact rfl)); exact rfl)) | (apply og_assign; (first | (apply op_nil (tt := tt); exact rfl; exact ltn rfl) | (apply op_take (.inl rfl); (focus ((conv => lhs; whnf); try exact rfl)); exact rfl; exact ltn rfl) | (apply op_assign (tt := tt); (focus ((conv => lhs; whnf); try exact rfl)); exact rfl))) | (apply og_callv; (first | (refine op_callP (tt := tt) cal68 (region_sat _ _) rfl rfl rfl rfl rfl ?_) | (refine op_callP (tt := tt) cal69 (may_sat _ _) rfl rfl rfl rfl rfl ?_) | (refine op_callP (tt := tt) cal70 (Ring_sat _ _ _ _) rfl rfl rfl rfl rfl ?_))) | (apply og_bin; (apply op_bin true tab; (focus ((conv => lhs; whnf; arg 1; whnf; arg 2; whnf); try exact rfl)); (exact trivial); exact rfl)) | (apply og_pick; (apply op_pick (tt := tt); exact (rfl : _ = PV.bool _); (first | refine .inl ⟨rfl, ?_⟩ | refine .inl ⟨by assumption, ?_⟩ | refine .inr ⟨by assumption, ?_⟩); (focus ((conv => lhs; whnf); try exact rfl)); exact ltn rfl)) | (apply og_callb; (apply op_len tab; (focus ((conv => lhs; whnf; arg 1; whnf; arg 2; whnf); try exact rfl)); (exact trivial); exact rfl)) | (apply og_un; (apply op_un (tt := tt) true; (focus ((conv => lhs; whnf; arg 1; whnf; arg 2; whnf); try exact rfl)); (exact trivial); exact rfl)) | (apply og_slice; (apply op_lk; (apply lk_sliceM_h _ tab; exact rfl; (focus ((conv => lhs; whnf); try exact rfl)); exact rfl; (focus ((conv => lhs; whnf); try exact rfl)); (simp only [decide_eq_true_eq, decide_eq_false_iff_not, List.length_map, InR, ne_eq] at *; omega)); (intro c h; cases h); exact rfl)) | (apply ops_nil))) | (apply og_sat; (first | (apply sat_seq) | (apply sat_region) | (apply sat_cond_t; exact rfl; (exact rfl)) | (apply sat_cond; exact (rfl : _ = PV.bool _); all_goals intro hb) | (apply sat_skip) | (apply sat_ret) | (apply sat_block))) | (apply pe_norm) | (apply pe_ret))
  · (change fnPost _ _ _ _ _ _ _; apply fn_end2; (exact .inr rfl); exact rfl; (focus ((conv => lhs; whnf); try exact rfl)); (focus ((conv => lhs; whnf); try exact rfl)); (exact Wk.sh); (exact Wk.same _); exact rfl; exact rfl; exact (List.append_nil _).symm; exact Nat.le_refl _; exact trivial; exact trivial; exact hso)
    have h : ¬ (1 ≤ r ∧ r ≤ 3) := ndt ‹_›
    exact ⟨by simp only [spreadP]; rw [if_pos (by omega)]; rfl, rfl⟩
  · (change fnPost _ _ _ _ _ _ _; apply fn_end2; (exact .inr rfl); exact rfl; (focus ((conv => lhs; whnf); try exact rfl)); (focus ((conv => lhs; whnf); try exact rfl)); (exact Wk.sh); (exact Wk.same _); exact rfl; exact rfl; exact (List.append_nil _).symm; exact Nat.le_refl _; exact trivial; exact trivial; exact hso)
    have h := of_decide_eq_true (p := many < 0) ‹_›
    exact ⟨by simp only [spreadP]; rw [if_pos (by omega)]; rfl, rfl⟩
  · (change fnPost _ _ _ _ _ _ _; apply fn_end2; (exact .inr rfl); exact rfl; (focus ((conv => lhs; whnf); try exact rfl)); (focus ((conv => lhs; whnf); try exact rfl)); (exact Wk.sh); (exact Wk.same _); exact rfl; exact rfl; exact (List.append_nil _).symm; exact Nat.le_refl _; exact trivial; exact trivial; exact hso)
    have h := of_decide_eq_true (p := vol < 0) ‹_›
    exact ⟨by simp only [spreadP]; rw [if_pos (by omega)]; rfl, rfl⟩
  · (change fnPost _ _ _ _ _ _ _; apply fn_end2; (exact .inr rfl); exact rfl; (focus ((conv => lhs; whnf); try exact rfl)); (focus ((conv => lhs; whnf); try exact rfl)); (exact Wk.sh); (exact Wk.same _); exact rfl; exact rfl; exact (List.append_nil _).symm; exact Nat.le_refl _; exact trivial; exact trivial; exact hso)
    have h : ¬ (1 ≤ nodes ∧ nodes ≤ 64) := ndt ‹_›
    exact ⟨by simp only [spreadP]; rw [if_pos (by omega)]; rfl, rfl⟩
  · (change fnPost _ _ _ _ _ _ _; apply fn_end2; (exact .inr rfl); exact rfl; (focus ((conv => lhs; whnf); try exact rfl)); (focus ((conv => lhs; whnf); try exact rfl)); (exact Wk.sh); (exact Wk.same _); exact rfl; exact rfl; exact (List.append_nil _).symm; exact Nat.le_refl _; exact trivial; exact trivial; exact hso)
    have g1 : (1 ≤ r ∧ r ≤ 3) := ndf ‹_›
    have g2 : (1 ≤ nodes ∧ nodes ≤ 64) := ndf ‹_›
    have g3 := of_decide_eq_false (p := many < 0) ‹_›
    have g4 := of_decide_eq_false (p := vol < 0) ‹_›
    have h := of_decide_eq_true (p := (((ringP vol nodes live).map (PV.int .i64)).length : Int) < many) ‹_›
    rw [List.length_map] at h
    exact ⟨by simp only [spreadP]; rw [if_neg (by omega), if_pos h]; rfl, rfl⟩
  · have g1 : (1 ≤ r ∧ r ≤ 3) := ndf ‹_›
    have g2 : (1 ≤ nodes ∧ nodes ≤ 64) := ndf ‹_›
    have g3 := of_decide_eq_false (p := many < 0) ‹_›
    have g4 := of_decide_eq_false (p := vol < 0) ‹_›
    have h := of_decide_eq_false (p := (((ringP vol nodes live).map (PV.int .i64)).length : Int) < many) ‹_›
    rw [List.length_map] at h
    have hP : spreadP vol r many nodes live = (((ringP vol nodes live).take many.toNat).map fun n => (r, n), 0) := by simp only [spreadP]; rw [if_neg (by omega), if_neg h]
    have hlen := ringP_len vol nodes live
    rw [hP]
    generalize ringP vol nodes live = xs at h hlen ⊢
    generalize hys : xs.take many.toNat = ys
    have hyl : ys.length ≤ 64 := by rw [← hys]; simp; omega
    refine sat_loopW (fun i : Nat => [(1, .int .i64 r), (42, .sl .sh 1 (ys.map (.int .i64))), (43, .int .i64 ys.length), (13, .sl .ow 2 (((ys.take i).map fun n => (r, n)).map plc)), (44, .int .i64 i)]) (fun _ => σ) (fun i => i ≤ ys.length) (fun i => ys.length - i) 0 (Nat.zero_le _) ?_ rfl ?_
    · (repeat' (first | exact trivial | exact Wk.same _ | (refine Wk.eq ?_; (conv => rhs; whnf); simp <;> fail) | refine ⟨?_, ?_⟩))
    intro i hi
    have hL : (((ys.take i).map fun n => (r, n)).map plc).length ≤ 64 := by simp; omega
    repeat' (first | (apply og_ops; (first | (apply og_move; (first | (apply op_take (d := 48) (.inr rfl); (focus ((conv => lhs; whnf); try exact rfl)); exact rfl; exact ltn rfl) | (apply op_move (tt := tt); (focus ((conv => lhs; whnf); try exact rfl)); exact rfl))) | (apply og_assign; (first | (apply op_take (.inl rfl); (focus ((conv => lhs; whnf); try exact rfl)); exact rfl; exact ltn rfl) | (apply op_assign (tt := tt); (focus ((conv => lhs; whnf); try exact rfl)); exact rfl))) | (apply og_bin; (apply op_bin true tab; (focus ((conv => lhs; whnf; arg 1; whnf; arg 2; whnf); try exact rfl)); (first | exact trivial | (simp only [InR]; omega)); exact rfl)) | (apply og_load; (apply op_load tab; (focus ((conv => lhs; whnf; arg 1; whnf; arg 2; whnf); try skip)); (exact trivial); exact rfl)) | (apply og_callb; (apply op_appendX tab; (focus ((conv => lhs; whnf); try exact rfl)); exact rfl; exact rfl; exact rfl; exact rfl; exact rfl; (focus ((conv => lhs; whnf); try exact rfl)); exact rfl; (simp only [List.length_map, List.length_append, List.length_cons, List.length_nil, List.length_take]; omega); (exact rfl); exact rfl)) | (apply og_indexAddr; (refine op_indexMap (tI := 3) _ tab rfl (by (focus ((conv => lhs; whnf); try exact rfl))) (by (focus ((conv => lhs; whnf); try exact rfl))) rfl (by (omega)) (by (simp only [decide_eq_true_eq, decide_eq_false_iff_not, List.length_map, InR, ne_eq] at *; omega)) (by (focus ((conv => lhs; whnf); try exact rfl))) (ltn rfl) ?_)) | (apply og_build; (apply op_lk; (apply lk_build tab; exact rfl; (focus ((conv => lhs; whnf; arg 1; whnf; arg 2; whnf); try skip))); (intro c h; cases h); exact rfl)) | (apply og_buildSlice; (apply op_buildSliceX .ow tab; exact rfl; (focus ((repeat (apply opvs_cons; (focus ((conv => lhs; whnf); try exact rfl)))); exact opvs_nil)); exact rfl; exact rfl; exact rfl; exact rfl; exact rfl; exact rfl)) | (apply ops_nil))) | (apply og_sat; (first | (apply sat_seq) | (apply sat_region) | (apply sat_cond; exact (rfl : _ = PV.bool _); all_goals intro hb) | (apply sat_skip) | (apply sat_ret) | (apply sat_block) | (apply sat_exit))) | (apply pe_norm) | (apply pb_norm) | (apply pe_exit) | (apply pb_same))
    · have hlt := of_decide_eq_true (p := (i : Int) < (ys.length : Int)) ‹_›
      have hil : i < ys.length := by omega
      have e1 : ys.getD i default = ys[i] := by simp [List.getD, hil]
      refine ⟨i + 1, by omega, by omega, ?_, rfl⟩
      rw [List.take_succ_eq_append_getElem hil, ← e1]
      (repeat' (first | exact trivial | exact Wk.same _ | (refine Wk.eq ?_; (conv => rhs; whnf); simp; rfl) | refine ⟨?_, ?_⟩))
    · have hlt := of_decide_eq_false (p := (i : Int) < (ys.length : Int)) ‹_›
      have e : i = ys.length := by omega
      (change fnPost _ _ _ _ _ _ _; apply fn_end2; (exact .inr rfl); exact rfl; (focus ((conv => lhs; whnf); try exact rfl)); (focus ((conv => lhs; whnf); try exact rfl)); (exact Wk.same _); (exact Wk.same _); exact rfl; exact rfl; exact (List.append_nil _).symm; exact Nat.le_refl _; exact trivial; exact trivial; exact hso)
      rw [e, List.take_length]
      exact ⟨rfl, rfl⟩

end Go.Proofs.Ytenmnbjhebmpjaa.Pv
