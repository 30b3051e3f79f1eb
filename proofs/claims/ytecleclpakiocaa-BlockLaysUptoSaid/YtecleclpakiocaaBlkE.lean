/- What the laws of chapter block show; BlockSplits. -/
import Derived.Test.YtecleclpakiocaaBlkD
namespace Go.Proofs.Ytecleclpakiocaa.Pv
open Go
set_option linter.unusedVariables false
set_option linter.unusedSimpArgs false
set_option maxRecDepth 100000

theorem shown_sat (σ : Sto) : SatCall Try.prog 10 [] σ fun x σ' => x = .bool true ∧ σ' = σ := by
  refine sat_fn tab Try.func10 rfl (Nat.le_of_ble_eq_true rfl) (by decide) fun hso => ?_
  have hS := split_sat ⟨#[97, 98, 99]⟩ 2 (by decide) σ
  rw [show splitP ⟨#[97, 98, 99]⟩ 2 = ([⟨#[97, 98]⟩, ⟨#[99, 0]⟩], 0) by decide +kernel] at hS
  have hJ := join_sat [⟨#[97, 98]⟩, ⟨#[99, 0]⟩] 3 (by decide) (by decide +kernel) σ
  rw [show joinP [⟨#[97, 98]⟩, ⟨#[99, 0]⟩] 3 = (⟨#[97, 98, 99]⟩, 0) by decide +kernel] at hJ
  have hL := lay_sat 4 [(2, ⟨#[120]⟩)] (by decide) σ
  rw [show layP 4 [(2, ⟨#[120]⟩)] = (⟨#[0, 0, 120, 0]⟩, 0) by decide +kernel] at hL
  repeat' (first | (apply og_ops; (first | (apply og_assign; (apply op_assign (tt := tt); (focus ((conv => lhs; whnf); try exact rfl)); exact rfl)) | (apply ops_nil))) | (apply og_sat; (first | (apply sat_seq) | (apply sat_region))) | (apply pe_norm))
  refine op_callP (tt := tt) cal11 hS rfl rfl rfl rfl rfl ?_
  repeat' (first | (apply og_ops; (first | (apply og_move; (apply op_move (tt := tt); (focus ((conv => lhs; whnf); try exact rfl)); exact rfl)) | (apply og_assign; (apply op_assign (tt := tt); (focus ((conv => lhs; whnf); try exact rfl)); exact rfl)) | (apply og_extract; (apply op_extract (tt := tt); (focus ((conv => lhs; whnf; arg 1; whnf; arg 2; whnf); try exact rfl)); (exact trivial); exact rfl)) | (apply ops_nil))) | (apply og_sat; (first | (apply sat_seq) | (apply sat_region))) | (apply pe_norm))
  refine op_callP (tt := tt) cal13 hJ rfl rfl rfl rfl rfl ?_
  repeat' (first | (apply og_ops; (first | (apply og_move; (apply op_move (tt := tt); (focus ((conv => lhs; whnf); try exact rfl)); exact rfl)) | (apply og_assign; (apply op_assign (tt := tt); (focus ((conv => lhs; whnf); try exact rfl)); exact rfl)) | (apply og_extract; (apply op_extract (tt := tt); (focus ((conv => lhs; whnf; arg 1; whnf; arg 2; whnf); try exact rfl)); (exact trivial); exact rfl)) | (apply og_build; (apply op_lk; (apply lk_build tab; exact rfl; (focus ((conv => lhs; whnf; arg 1; whnf; arg 2; whnf); try skip))); (intro c h; cases h); exact rfl)) | (apply og_buildSlice; (apply op_buildSliceX .ow tab; exact rfl; (focus ((repeat (apply opvs_cons; (focus ((conv => lhs; whnf); try exact rfl)))); exact opvs_nil)); exact rfl; exact rfl; exact rfl; exact rfl; exact rfl; exact rfl)) | (apply ops_nil))) | (apply og_sat; (first | (apply sat_seq) | (apply sat_region))) | (apply pe_norm))
  refine op_callP (tt := tt) cal16 hL rfl rfl rfl rfl rfl ?_
  repeat' (first | (apply og_ops; (first | (apply og_guard; (apply ops_guard_t; exact (rfl : _ = some _); exact (rfl : _ = PV.bool _); (exact rfl))) | (apply og_move; (apply op_move (tt := tt); (focus ((conv => lhs; whnf); try exact rfl)); exact rfl)) | (apply og_assign; (apply op_assign (tt := tt); (focus ((conv => lhs; whnf); try exact rfl)); exact rfl)) | (apply og_bin; (apply op_bin true tab; (focus ((conv => lhs; whnf; arg 1; whnf; arg 2; whnf); try exact rfl)); (exact trivial); exact rfl)) | (apply og_pick; (apply op_pick (tt := tt); exact (rfl : _ = PV.bool _); (refine .inl ⟨rfl, ?_⟩); (focus ((conv => lhs; whnf); try exact rfl)); exact ltn rfl)) | (apply og_load; (apply op_load tab; (focus ((conv => lhs; whnf; arg 1; whnf; arg 2; whnf); try skip)); (exact trivial); exact rfl)) | (apply og_callb; (apply op_len tab; (focus ((conv => lhs; whnf; arg 1; whnf; arg 2; whnf); try exact rfl)); (exact trivial); exact rfl)) | (apply og_indexAddr; (refine op_indexMap (tI := 3) _ tab rfl (by (focus ((conv => lhs; whnf); try exact rfl))) (by (focus ((conv => lhs; whnf); try exact rfl))) rfl (by (omega)) (by (simp only [List.length_map, List.length_cons, List.length_append, List.length_nil]; omega)) (by (focus ((conv => lhs; whnf); try exact rfl))) (ltn rfl) ?_)) | (apply og_extract; (apply op_extract (tt := tt); (focus ((conv => lhs; whnf; arg 1; whnf; arg 2; whnf); try exact rfl)); (exact trivial); exact rfl)) | (apply ops_nil))) | (apply og_sat; (first | (apply sat_seq) | (apply sat_region) | (apply sat_ret))) | (apply pe_norm))
  (change fnPost _ _ _ _ _ _ _; apply fn_endN; (exact .inr rfl); (focus (repeat' (first | (apply rr_tmp; (focus ((conv => lhs; whnf); try exact rfl)); (exact Wk.same _)) | exact rr_nil))); exact rfl; (exact (List.append_nil _).symm); exact Nat.le_refl _; (focus (repeat' (first | exact trivial | refine ⟨?_, ?_⟩))); exact hso)
  exact ⟨rfl, rfl⟩

theorem blockSplits_sat (s : ByteArray) (k : Int) (xs : List ByteArray) (n : Int) (hN : xs.length ≤ 140737488355328) (hl : (catI xs).length ≤ 70368744177664) (σ : Sto) : SatCall Try.prog 3 [.agg [.str s, .int .i64 k, .sl .sh 1 (xs.map PV.str), .int .i64 n]] σ fun x σ' => x = .bool true ∧ σ' = σ := by
  refine sat_fn tab Try.func3 rfl (Nat.le_of_ble_eq_true rfl) (by decide) fun hso => sat_base ?_
  by_cases h0 : (65536 : Int) < (s.size : Int)
  · have c0 : decide ((65536 : Int) < (s.size : Int)) = true := decide_eq_true h0
    repeat' (first | (apply og_ops; (first | (apply og_move; (apply op_move (tt := tt); (focus ((conv => lhs; whnf); try exact rfl)); exact rfl)) | (apply og_assign; (apply op_assign (tt := tt); (focus ((conv => lhs; whnf); try exact rfl)); exact rfl)) | (apply og_callv; (refine op_callP (tt := tt) cal10 (shown_sat _) rfl rfl rfl rfl rfl ?_)) | (apply og_bin; (apply op_bin true tab; (focus ((conv => lhs; whnf; arg 1; whnf; arg 2; whnf); try exact rfl)); (exact trivial); exact rfl)) | (apply og_load; (apply op_lk; (apply lk_loadX tab; exact rfl; exact rfl; exact rfl; (focus ((conv => lhs; whnf; arg 1; whnf; arg 2; whnf); try skip)); (exact trivial)); (intro c h; cases h); exact rfl)) | (apply og_callb; (apply op_len tab; (focus ((conv => lhs; whnf; arg 1; whnf; arg 2; whnf); try exact rfl)); (exact trivial); exact rfl)) | (apply og_fieldAddr; (apply op_lk; (apply lk_fieldAddrB tab; exact rfl; (focus ((conv => lhs; whnf); try exact rfl)); exact rfl; (first | exact (rfl : _ = 0) | exact (rfl : _ = 1) | exact (rfl : _ = 2) | exact (rfl : _ = 3))); (intro c h; cases h); exact rfl)) | (apply og_box; (apply op_boxX (tt := tt); (focus ((conv => lhs; whnf); try exact rfl)); exact rfl; (exact (rfl : _ = 0)); exact rfl)) | (apply ops_nil))) | (apply og_sat; (first | (apply sat_seq) | (apply sat_region) | (apply sat_cond_t; exact rfl; (assumption)) | (apply sat_ret))) | (apply pe_norm) | (apply pe_ret))
    (change fnPost _ _ _ _ _ _ _; apply fn_endN; (exact .inr rfl); (focus (repeat' (first | (apply rr_tmp; (focus ((conv => lhs; whnf); try exact rfl)); (exact Wk.same _)) | exact rr_nil))); exact rfl; (exact rfl); exact Nat.le_refl _; (focus (repeat' (first | exact trivial | refine ⟨?_, ?_⟩))); exact hso)
    exact ⟨rfl, rfl⟩
  · have c0 : decide ((65536 : Int) < (s.size : Int)) = false := decide_eq_false h0
    have hs : s.size ≤ 2000000 := by omega
    have hsl : (splitP s k).1.length ≤ 9223372036854775807 := by
      unfold splitP
      split
      · decide
      · simp [piecesP]; omega
    have d1 : decide ((splitP s k).1 = (splitP s k).1) = true := by simp
    have d2 : ((splitP s k).2 == (splitP s k).2) = true := by simp
    have d3 : beqS (joinP xs n).1 (joinP xs n).1 = true := beqS_iff.2 rfl
    repeat' (first | (apply og_ops; (first | (apply og_guard; (apply ops_guard_t; exact (rfl : _ = some _); exact (rfl : _ = PV.bool _); (first | exact rfl | assumption))) | (apply og_move; (apply op_move (tt := tt); (focus ((conv => lhs; whnf); try exact rfl)); exact rfl)) | (apply og_assign; (apply op_assign (tt := tt); (focus ((conv => lhs; whnf); try exact rfl)); exact rfl)) | (apply og_callv; (first | (refine op_callP (tt := tt) cal10 (shown_sat _) rfl rfl rfl rfl rfl ?_) | (refine op_callP (tt := tt) cal11 (split_sat _ _ ?_ _) rfl rfl rfl rfl rfl ?_; (assumption)) | (refine op_callP (tt := tt) cal12 (refSplit_sat _ _ ?_ _) rfl rfl rfl rfl rfl ?_; (assumption)) | (refine op_callP (tt := tt) cal13 (join_sat _ _ ?_ ?_ _) rfl rfl rfl rfl rfl ?_; (assumption); (assumption)) | (refine op_callP (tt := tt) cal14 (refJoin_sat _ _ ?_ ?_ _) rfl rfl rfl rfl rfl ?_; (assumption); (assumption)) | (refine op_callP (tt := tt) cal15 (same_sat _ _ ?_ _) rfl rfl rfl rfl rfl ?_; (assumption)))) | (apply og_bin; (apply op_bin true tab; (focus ((conv => lhs; whnf; arg 1; whnf; arg 2; whnf); try exact rfl)); (exact trivial); exact rfl)) | (apply og_pick; (apply op_pick (tt := tt); exact (rfl : _ = PV.bool _); (first | refine .inl ⟨rfl, ?_⟩ | refine .inl ⟨by assumption, ?_⟩); (focus ((conv => lhs; whnf); try exact rfl)); exact ltn rfl)) | (apply og_load; (apply op_lk; (apply lk_loadX tab; exact rfl; exact rfl; exact rfl; (focus ((conv => lhs; whnf; arg 1; whnf; arg 2; whnf); try skip)); (exact trivial)); (intro c h; cases h); exact rfl)) | (apply og_callb; (apply op_len tab; (focus ((conv => lhs; whnf; arg 1; whnf; arg 2; whnf); try exact rfl)); (exact trivial); exact rfl)) | (apply og_fieldAddr; (apply op_lk; (apply lk_fieldAddrB tab; exact rfl; (focus ((conv => lhs; whnf); try exact rfl)); exact rfl; (first | exact (rfl : _ = 0) | exact (rfl : _ = 1) | exact (rfl : _ = 2) | exact (rfl : _ = 3))); (intro c h; cases h); exact rfl)) | (apply og_extract; (apply op_extract (tt := tt); (focus ((conv => lhs; whnf; arg 1; whnf; arg 2; whnf); try exact rfl)); (exact trivial); exact rfl)) | (apply og_box; (apply op_boxX (tt := tt); (focus ((conv => lhs; whnf); try exact rfl)); exact rfl; (exact (rfl : _ = 0)); exact rfl)) | (apply ops_nil))) | (apply og_sat; (first | (apply sat_seq) | (apply sat_region) | (apply sat_cond_f; exact rfl; (assumption)) | (apply sat_skip) | (apply sat_ret))) | (apply pe_norm))
    (change fnPost _ _ _ _ _ _ _; apply fn_endN; (exact .inr rfl); (focus (repeat' (first | (apply rr_tmp; (focus ((conv => lhs; whnf); try exact rfl)); (exact Wk.same _)) | exact rr_nil))); exact rfl; (exact rfl); exact Nat.le_refl _; (focus (repeat' (first | exact trivial | refine ⟨?_, ?_⟩))); exact hso)
    exact ⟨by simp [resOf], rfl⟩

theorem catI_wt : ∀ (xs : List ByteArray), (catI xs).length + xs.length = wtAll (xs.map PV.str)
  | [] => rfl
  | x :: r => by
    have h := catI_wt r
    simp only [catI, List.map_cons, List.flatten_cons, List.length_append, List.length_cons, wtAll, PV.wt, bi_len] at h ⊢
    omega

theorem blockSplitsUpto_law (c0 : List PV) (h0 : HasC (.struct [.str, .int .i64, .sl 1 .str, .int .i64]) c0) (hw : (mkV (.struct [.str, .int .i64, .sl 1 .str, .int .i64]) c0).wt ≤ 1048576) :
    SatCall Try.prog 3 [mkV (.struct [.str, .int .i64, .sl 1 .str, .int .i64]) c0] [] fun r _ => r = .bool true := by
  obtain ⟨_, _, rfl, ⟨s, _, rfl⟩, _, _, rfl, ⟨k, _, rfl⟩, _, _, rfl, ⟨es, rfl, _, he⟩, _, _, rfl, ⟨n, _, rfl⟩, rfl⟩ := h0
  obtain ⟨xs, rfl, _⟩ := elems_of PV.str (fun _ => True) (fun c h => let ⟨a, h1, _⟩ := dec_str c h; ⟨a, h1, trivial⟩) he
  have h1 := catI_wt xs
  have h2 : wtAll (xs.map PV.str) ≤ 1048576 := by
    simp only [mkV, List.cons_append, List.nil_append, PV.wt, wtAll] at hw; omega
  exact (blockSplits_sat s k xs n (by omega) (by omega) []).mono fun _ _ h => h.1

end Go.Proofs.Ytecleclpakiocaa.Pv
