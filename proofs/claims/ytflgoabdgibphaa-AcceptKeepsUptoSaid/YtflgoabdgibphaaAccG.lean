/- What the laws of chapter accept show; AcceptHolds. -/
import Derived.Test.YtflgoabdgibphaaAccF
namespace Go.Proofs.Ytflgoabdgibphaa.Pv
open Go
set_option linter.unusedVariables false
set_option linter.unusedSimpArgs false
set_option maxRecDepth 100000

theorem shown_sat (σ : Sto) : SatCall Try.prog 8 [] σ fun x σ' => x = .bool true ∧ σ' = σ := by
  refine sat_fn tab Try.func8 rfl (Nat.le_of_ble_eq_true rfl) (by decide) fun hso => sat_base ?_
  have h1 := prepare_sat (0, []) 5 (by decide)
  rw [show prepP (0, []) 5 = ((5, []), [], 0) by decide +kernel] at h1
  have h2 := accept_sat (5, []) (1, 3, ⟨#[120]⟩) (by decide)
  rw [show accP (5, []) (1, 3, ⟨#[120]⟩) = ((5, []), 9) by decide +kernel] at h2
  have h3 := accept_sat (5, []) (1, 5, ⟨#[120]⟩) (by decide)
  rw [show accP (5, []) (1, 5, ⟨#[120]⟩) = ((5, [(1, 5, ⟨#[120]⟩)]), 0) by decide +kernel] at h3
  have h4 := prepare_sat (5, [(1, 5, ⟨#[120]⟩)]) 7 (by decide)
  rw [show prepP (5, [(1, 5, ⟨#[120]⟩)]) 7 = ((7, [(1, 5, ⟨#[120]⟩)]), [(1, 5, ⟨#[120]⟩)], 0) by decide +kernel] at h4
  repeat' (first | (apply og_ops; (first | (apply og_assign; (apply op_assign (tt := tt); (focus ((conv => lhs; whnf); try exact rfl)); exact rfl)) | (apply og_build; (apply op_lk; (apply lk_build tab; exact rfl; (focus ((conv => lhs; whnf; arg 1; whnf; arg 2; whnf); try skip))); (intro c h; cases h); exact rfl)) | (apply ops_nil))) | (apply og_sat; (first | (apply sat_seq) | (apply sat_region))) | (apply pe_norm))
  refine op_callP (tt := tt) cal9 (h1 _) rfl rfl rfl rfl rfl ?_
  repeat' (first | (apply og_ops; (first | (apply og_move; (apply op_move (tt := tt); (focus ((conv => lhs; whnf); try exact rfl)); exact rfl)) | (apply og_assign; (apply op_assign (tt := tt); (focus ((conv => lhs; whnf); try exact rfl)); exact rfl)) | (apply og_load; (apply op_lk; (apply lk_loadX tab; exact rfl; exact rfl; exact rfl; (focus ((conv => lhs; whnf; arg 1; whnf; arg 2; whnf); try skip)); (exact Nat.le_of_ble_eq_true rfl)); (intro c h; cases h); exact rfl)) | (apply og_extract; (apply op_extract (tt := tt); (focus ((conv => lhs; whnf; arg 1; whnf; arg 2; whnf); try exact rfl)); (exact trivial); exact rfl)) | (apply og_store; (apply op_storeX tab; exact rfl; exact rfl; exact rfl; exact rfl; exact rfl; exact rfl; exact rfl; exact rfl)) | (apply og_build; (apply op_lk; (apply lk_build tab; exact rfl; (focus ((conv => lhs; whnf; arg 1; whnf; arg 2; whnf); try skip))); (intro c h; cases h); exact rfl)) | (apply og_alloc; (apply op_allocX tab; exact rfl; exact rfl; (exact (rfl : _ = 0)); exact rfl)) | (apply ops_nil))) | (apply og_sat; (first | (apply sat_seq) | (apply sat_region))) | (apply pe_norm))
  refine op_callP (tt := tt) cal10 (h2 _) rfl rfl rfl rfl rfl ?_
  repeat' (first | (apply og_ops; (first | (apply og_move; (apply op_move (tt := tt); (focus ((conv => lhs; whnf); try exact rfl)); exact rfl)) | (apply og_assign; (apply op_assign (tt := tt); (focus ((conv => lhs; whnf); try exact rfl)); exact rfl)) | (apply og_load; (apply op_lk; (apply lk_loadX tab; exact rfl; exact rfl; exact rfl; (focus ((conv => lhs; whnf; arg 1; whnf; arg 2; whnf); try skip)); (exact Nat.le_of_ble_eq_true rfl)); (intro c h; cases h); exact rfl)) | (apply og_extract; (apply op_extract (tt := tt); (focus ((conv => lhs; whnf; arg 1; whnf; arg 2; whnf); try exact rfl)); (exact trivial); exact rfl)) | (apply og_store; (apply op_storeX tab; exact rfl; exact rfl; exact rfl; exact rfl; exact rfl; exact rfl; exact rfl; exact rfl)) | (apply og_build; (apply op_lk; (apply lk_build tab; exact rfl; (focus ((conv => lhs; whnf; arg 1; whnf; arg 2; whnf); try skip))); (intro c h; cases h); exact rfl)) | (apply og_alloc; (apply op_allocX tab; exact rfl; exact rfl; (exact (rfl : _ = 1)); exact rfl)) | (apply ops_nil))) | (apply og_sat; (first | (apply sat_seq) | (apply sat_region))) | (apply pe_norm))
  refine op_callP (tt := tt) cal10 (h3 _) rfl rfl rfl rfl rfl ?_
  repeat' (first | (apply og_ops; (first | (apply og_move; (apply op_move (tt := tt); (focus ((conv => lhs; whnf); try exact rfl)); exact rfl)) | (apply og_assign; (apply op_assign (tt := tt); (focus ((conv => lhs; whnf); try exact rfl)); exact rfl)) | (apply og_load; (apply op_lk; (apply lk_loadX tab; exact rfl; exact rfl; exact rfl; (focus ((conv => lhs; whnf; arg 1; whnf; arg 2; whnf); try skip)); (exact Nat.le_of_ble_eq_true rfl)); (intro c h; cases h); exact rfl)) | (apply og_extract; (apply op_extract (tt := tt); (focus ((conv => lhs; whnf; arg 1; whnf; arg 2; whnf); try exact rfl)); (exact trivial); exact rfl)) | (apply og_store; (apply op_storeX tab; exact rfl; exact rfl; exact rfl; exact rfl; exact rfl; exact rfl; exact rfl; exact rfl)) | (apply ops_nil))) | (apply og_sat; (first | (apply sat_seq) | (apply sat_region))) | (apply pe_norm))
  refine op_callP (tt := tt) cal9 (h4 _) rfl rfl rfl rfl rfl ?_
  repeat' (first | (apply og_ops; (first | (apply og_guard; (apply ops_guard_t; exact (rfl : _ = some _); exact (rfl : _ = PV.bool _); (exact rfl))) | (apply og_move; (apply op_move (tt := tt); (focus ((conv => lhs; whnf); try exact rfl)); exact rfl)) | (apply og_assign; (apply op_assign (tt := tt); (focus ((conv => lhs; whnf); try exact rfl)); exact rfl)) | (apply og_bin; (apply op_bin true tab; (focus ((conv => lhs; whnf; arg 1; whnf; arg 2; whnf); try exact rfl)); (exact trivial); exact rfl)) | (apply og_pick; (apply op_pick (tt := tt); exact (rfl : _ = PV.bool _); (refine .inl ⟨rfl, ?_⟩); (focus ((conv => lhs; whnf); try exact rfl)); exact ltn rfl)) | (apply og_load; (apply op_load tab; (focus ((conv => lhs; whnf; arg 1; whnf; arg 2; whnf); try skip)); (exact trivial); exact rfl)) | (apply og_callb; (apply op_len tab; (focus ((conv => lhs; whnf; arg 1; whnf; arg 2; whnf); try exact rfl)); (exact trivial); exact rfl)) | (apply og_indexAddr; (refine op_indexMap (tI := 3) _ tab rfl (by (focus ((conv => lhs; whnf); try exact rfl))) (by (focus ((conv => lhs; whnf); try exact rfl))) rfl (by (omega)) (by (simp only [List.length_map, List.length_cons, List.length_append, List.length_nil]; omega)) (by (focus ((conv => lhs; whnf); try exact rfl))) (ltn rfl) ?_)) | (apply og_fieldAddr; (apply op_lk; (apply lk_fieldAddrC tab; exact rfl; (focus ((conv => lhs; whnf); try exact rfl)); exact rfl; exact rfl; (focus ((conv => lhs; whnf); try exact rfl))); (intro c h; cases h); exact rfl)) | (apply og_extract; (apply op_extract (tt := tt); (focus ((conv => lhs; whnf; arg 1; whnf; arg 2; whnf); try exact rfl)); (exact trivial); exact rfl)) | (apply og_store; (apply op_storeX tab; exact rfl; exact rfl; exact rfl; exact rfl; exact rfl; exact rfl; exact rfl; exact rfl)) | (apply og_alloc; (apply op_allocX tab; exact rfl; exact rfl; (exact (rfl : _ = 2)); exact rfl)) | (apply ops_nil))) | (apply og_sat; (first | (apply sat_seq) | (apply sat_region) | (apply sat_ret))) | (apply pe_norm))
  (change fnPost _ _ _ _ _ _ _; apply fn_endN; (exact .inr rfl); (focus (repeat' (first | (apply rr_tmp; (focus ((conv => lhs; whnf); try exact rfl)); (exact Wk.same _)) | exact rr_nil))); exact rfl; (exact rfl); exact Nat.le_refl _; (focus (repeat' (first | exact trivial | refine ⟨?_, ?_⟩))); exact hso)
  exact ⟨rfl, rfl⟩

theorem prepP_err {a : Acp} {b : Int} (h : (prepP a b).2.2 = 0) : b ≠ 0 ∧ ¬ b < a.1 ∧ (prepP a b).1 = (b, a.2) := by
  unfold prepP at h ⊢
  split
  · rename_i e; rw [if_pos e] at h; cases h
  · rename_i e
    rw [if_neg e] at h
    split
    · rename_i e2; rw [if_pos e2] at h; cases h
    · rename_i e2; exact ⟨e, e2, rfl⟩
theorem prepP_len (a : Acp) (b : Int) : (prepP a b).1.2.length = a.2.length := by unfold prepP; split <;> first | rfl | (split <;> rfl)

theorem acceptHolds_sat (a : Acp) (b : Int) (v : Vt) (c : Int) (hl : a.2.length ≤ 1048576) (σ : Sto) :
    SatCall Try.prog 4 [.agg [.int .u64 a.1, .sl .sh 3 (a.2.map vt), .int .u64 b, .int .i64 v.1, .int .u64 v.2.1, .str v.2.2, .int .u64 c]] σ fun x σ' => x = .bool true ∧ σ' = σ := by
  refine sat_fn tab Try.func4 rfl (Nat.le_of_ble_eq_true rfl) (by decide) fun hso => sat_base ?_
  have hp1 := prepare_sat a b hl
  repeat' (first | (apply og_ops; (first | (apply og_move; (apply op_move (tt := tt); (focus ((conv => lhs; whnf); try exact rfl)); exact rfl)) | (apply og_assign; (apply op_assign (tt := tt); (focus ((conv => lhs; whnf); try exact rfl)); exact rfl)) | (apply og_callv; (refine op_callP (tt := tt) cal8 (shown_sat _) rfl rfl rfl rfl rfl ?_)) | (apply og_load; (apply op_lk; (apply lk_loadX tab; exact rfl; exact rfl; exact rfl; (focus ((conv => lhs; whnf; arg 1; whnf; arg 2; whnf); try skip)); (first | exact trivial | exact Nat.le_of_ble_eq_true rfl)); (intro c h; cases h); exact rfl)) | (apply og_fieldAddr; (apply op_lk; (apply lk_fieldAddrB tab; exact rfl; (focus ((conv => lhs; whnf); try exact rfl)); exact rfl; (first | exact (rfl : _ = 0) | exact (rfl : _ = 2) | exact (rfl : _ = 3) | exact (rfl : _ = 6))); (intro c h; cases h); exact rfl)) | (apply og_store; (apply op_storeX tab; exact rfl; exact rfl; exact rfl; exact rfl; exact rfl; exact rfl; exact rfl; exact rfl)) | (apply og_alloc; (apply op_allocX tab; exact rfl; exact rfl; (first | exact (rfl : _ = 1) | exact (rfl : _ = 2)); exact rfl)) | (apply og_box; (apply op_boxX (tt := tt); (focus ((conv => lhs; whnf); try exact rfl)); exact rfl; (exact (rfl : _ = 0)); exact rfl)) | (apply ops_nil))) | (apply og_sat; (first | (apply sat_seq) | (apply sat_region))) | (apply pe_norm))
  refine op_callP (tt := tt) cal9 (hp1 _) rfl rfl rfl rfl rfl ?_
  by_cases he : (prepP a b).2.2 = 0
  · have d1 : ((prepP a b).2.2 != 0) = false := by rw [he]; rfl
    obtain ⟨k1, k2, k3⟩ := prepP_err he
    rw [k3]
    have hp2 := accept_sat (b, a.2) v hl
    have hp3 := prepare_sat (b, a.2) c hl
    repeat' (first | (apply og_ops; (first | (apply og_move; (apply op_move (tt := tt); (focus ((conv => lhs; whnf); try exact rfl)); exact rfl)) | (apply og_assign; (apply op_assign (tt := tt); (focus ((conv => lhs; whnf); try exact rfl)); exact rfl)) | (apply og_bin; (apply op_bin true tab; (focus ((conv => lhs; whnf; arg 1; whnf; arg 2; whnf); try exact rfl)); (exact trivial); exact rfl)) | (apply og_load; (apply op_lk; (apply lk_loadX tab; exact rfl; exact rfl; exact rfl; (focus ((conv => lhs; whnf; arg 1; whnf; arg 2; whnf); try skip)); (exact Nat.le_of_ble_eq_true rfl)); (intro c h; cases h); exact rfl)) | (apply og_extract; (apply op_extract (tt := tt); (focus ((conv => lhs; whnf; arg 1; whnf; arg 2; whnf); try exact rfl)); (exact trivial); exact rfl)) | (apply og_store; (apply op_storeX tab; exact rfl; exact rfl; exact rfl; exact rfl; exact rfl; exact rfl; exact rfl; exact rfl)) | (apply og_alloc; (apply op_allocX tab; exact rfl; exact rfl; (exact (rfl : _ = 3)); exact rfl)) | (apply ops_nil))) | (apply og_sat; (first | (apply sat_seq) | (apply sat_region) | (apply sat_cond_f; exact rfl; (assumption)) | (apply sat_skip))) | (apply pe_norm))
    refine op_callP (tt := tt) cal10 (hp2 _) rfl rfl rfl rfl rfl ?_
    repeat' (first | (apply og_ops; (first | (apply og_move; (apply op_move (tt := tt); (focus ((conv => lhs; whnf); try exact rfl)); exact rfl)) | (apply og_assign; (apply op_assign (tt := tt); (focus ((conv => lhs; whnf); try exact rfl)); exact rfl)) | (apply og_load; (apply op_lk; (apply lk_loadX tab; exact rfl; exact rfl; exact rfl; (focus ((conv => lhs; whnf; arg 1; whnf; arg 2; whnf); try skip)); (exact Nat.le_of_ble_eq_true rfl)); (intro c h; cases h); exact rfl)) | (apply og_extract; (apply op_extract (tt := tt); (focus ((conv => lhs; whnf; arg 1; whnf; arg 2; whnf); try exact rfl)); (exact trivial); exact rfl)) | (apply og_store; (apply op_storeX tab; exact rfl; exact rfl; exact rfl; exact rfl; exact rfl; exact rfl; exact rfl; exact rfl)) | (apply og_alloc; (apply op_allocX tab; exact rfl; exact rfl; (exact (rfl : _ = 4)); exact rfl)) | (apply ops_nil))) | (apply og_sat; (first | (apply sat_seq) | (apply sat_region))) | (apply pe_norm))
    refine op_callP (tt := tt) cal9 (hp3 _) rfl rfl rfl rfl rfl ?_
    have k4 : decide (b ≤ v.2.1) = false → ((accP (b, a.2) v).2 != 0) = true := fun h => by
      have h := of_decide_eq_false h
      unfold accP
      split
      · rfl
      · rw [if_pos (by show v.2.1 < b; omega)]; rfl
    have k5 : decide (b ≤ c) = false → ((prepP (b, a.2) c).2.2 != 0) = true := fun h => by
      have h := of_decide_eq_false h
      unfold prepP
      split
      · rfl
      · rw [if_pos (by show c < b; omega)]; rfl
    repeat' (first | (apply og_ops; (first | (apply og_guard; (first | (apply ops_guard_t; exact (rfl : _ = some _); exact (rfl : _ = PV.bool _); (first | exact rfl | assumption)) | (apply ops_guard_u; exact (rfl : _ = some _); exact rfl; exact ltn rfl) | (apply ops_guard_f'; exact (rfl : _ = some _); exact (rfl : _ = PV.bool _); (assumption); exact ltn rfl) | (apply ops_gsplit; exact (rfl : _ = some _); exact (rfl : _ = PV.bool _); all_goals intro hb))) | (apply og_move; (apply op_move (tt := tt); (focus ((conv => lhs; whnf); try exact rfl)); exact rfl)) | (apply og_assign; (apply op_assign (tt := tt); (focus ((conv => lhs; whnf); try exact rfl)); exact rfl)) | (apply og_bin; (apply op_bin true tab; (focus ((conv => lhs; whnf; arg 1; whnf; arg 2; whnf); try exact rfl)); (exact trivial); exact rfl)) | (apply og_pick; (apply op_pick (tt := tt); exact (rfl : _ = PV.bool _); (first | refine .inl ⟨rfl, ?_⟩ | refine .inl ⟨by assumption, ?_⟩ | refine .inr ⟨by assumption, ?_⟩); (focus ((conv => lhs; whnf); try exact rfl)); exact ltn rfl)) | (apply og_load; (apply op_lk; (apply lk_loadX tab; exact rfl; exact rfl; exact rfl; (focus ((conv => lhs; whnf; arg 1; whnf; arg 2; whnf); try skip)); (exact trivial)); (intro c h; cases h); exact rfl)) | (apply og_fieldAddr; (apply op_lk; (apply lk_fieldAddrB tab; exact rfl; (focus ((conv => lhs; whnf); try exact rfl)); exact rfl; (exact (rfl : _ = 1))); (intro c h; cases h); exact rfl)) | (apply og_extract; (apply op_extract (tt := tt); (focus ((conv => lhs; whnf; arg 1; whnf; arg 2; whnf); try exact rfl)); (exact trivial); exact rfl)) | (apply og_store; (apply op_storeX tab; exact rfl; exact rfl; exact rfl; exact rfl; exact rfl; exact rfl; exact rfl; exact rfl)) | (apply og_alloc; (apply op_allocX tab; exact rfl; exact rfl; (exact (rfl : _ = 5)); exact rfl)) | (apply ops_nil))) | (apply og_sat; (first | (apply sat_seq) | (apply sat_region) | (apply sat_ret))) | (apply pe_norm))
    all_goals (change fnPost _ _ _ _ _ _ _; apply fn_endN; (exact .inr rfl); (focus (repeat' (first | (apply rr_tmp; (focus ((conv => lhs; whnf); try exact rfl)); (exact Wk.same _)) | exact rr_nil))); exact rfl; (exact rfl); exact Nat.le_refl _; (focus (repeat' (first | exact trivial | refine ⟨?_, ?_⟩))); exact hso)
    all_goals refine ⟨?_, rfl⟩
    all_goals first
      | rfl
      | exact congrArg PV.bool (k5 (by assumption))
      | (exfalso; have k6 := k4 (by assumption); simp_all; done)
  · have d1 : ((prepP a b).2.2 != 0) = true := by simpa using he
    repeat' (first | (apply og_ops; (first | (apply og_move; (apply op_move (tt := tt); (focus ((conv => lhs; whnf); try exact rfl)); exact rfl)) | (apply og_assign; (apply op_assign (tt := tt); (focus ((conv => lhs; whnf); try exact rfl)); exact rfl)) | (apply og_bin; (apply op_bin true tab; (focus ((conv => lhs; whnf; arg 1; whnf; arg 2; whnf); try exact rfl)); (exact trivial); exact rfl)) | (apply og_extract; (apply op_extract (tt := tt); (focus ((conv => lhs; whnf; arg 1; whnf; arg 2; whnf); try exact rfl)); (exact trivial); exact rfl)) | (apply og_store; (apply op_storeX tab; exact rfl; exact rfl; exact rfl; exact rfl; exact rfl; exact rfl; exact rfl; exact rfl)) | (apply og_alloc; (apply op_allocX tab; exact rfl; exact rfl; (exact (rfl : _ = 3)); exact rfl)) | (apply ops_nil))) | (apply og_sat; (first | (apply sat_seq) | (apply sat_region) | (apply sat_cond_t; exact rfl; (assumption)) | (apply sat_ret))) | (apply pe_norm) | (apply pe_ret))
    (change fnPost _ _ _ _ _ _ _; apply fn_endN; (exact .inr rfl); (focus (repeat' (first | (apply rr_tmp; (focus ((conv => lhs; whnf); try exact rfl)); (exact Wk.same _)) | exact rr_nil))); exact rfl; (exact rfl); exact Nat.le_refl _; (focus (repeat' (first | exact trivial | refine ⟨?_, ?_⟩))); exact hso)
    exact ⟨rfl, rfl⟩

theorem dec_vt (c : List PV) (h : HasC (.struct [.int .i64, .int .u64, .str]) c) : ∃ a : Vt, mkV (.struct [.int .i64, .int .u64, .str]) c = vt a ∧ c = [.int .i64 a.1, .int .u64 a.2.1, .str a.2.2] := by
  obtain ⟨_, _, rfl, ⟨a, _, rfl⟩, _, _, rfl, ⟨b, _, rfl⟩, _, _, rfl, ⟨s, _, rfl⟩, rfl⟩ := h
  exact ⟨(a, b, s), rfl, rfl⟩
theorem wt_vt : ∀ (l : List Vt), l.length ≤ wtAll (l.map vt)
  | [] => Nat.zero_le _
  | y :: r => by
    have h1 := wt_vt r
    simp only [List.map_cons, List.length_cons, wtAll, vt, PV.wt] at h1 ⊢; omega
theorem dec_vts {es : List PV} (h : ∀ x ∈ es, ∃ c, x = mkV (.struct [.int .i64, .int .u64, .str]) c ∧ HasC (.struct [.int .i64, .int .u64, .str]) c) : ∃ l : List Vt, es = l.map vt := by
  obtain ⟨l, h1, _⟩ := elems_of vt (fun _ => True) (fun c hc => let ⟨a, h, _⟩ := dec_vt c hc; ⟨a, h, trivial⟩) h
  exact ⟨l, h1⟩

theorem acceptHoldsUpto_law (c0 : List PV) (h0 : HasC (.struct [.struct [.int .u64, .sl 3 (.struct [.int .i64, .int .u64, .str])], .int .u64, .struct [.int .i64, .int .u64, .str], .int .u64]) c0)
    (hw : (mkV (.struct [.struct [.int .u64, .sl 3 (.struct [.int .i64, .int .u64, .str])], .int .u64, .struct [.int .i64, .int .u64, .str], .int .u64]) c0).wt ≤ 1048576) :
    SatCall Try.prog 4 [mkV (.struct [.struct [.int .u64, .sl 3 (.struct [.int .i64, .int .u64, .str])], .int .u64, .struct [.int .i64, .int .u64, .str], .int .u64]) c0] [] fun r _ => r = .bool true := by
  obtain ⟨_, _, rfl, ⟨_, _, rfl, ⟨p, _, rfl⟩, _, _, rfl, ⟨es, rfl, _, he⟩, rfl⟩, _, _, rfl, ⟨b, _, rfl⟩, _, _, rfl, hv, _, _, rfl, ⟨c, _, rfl⟩, rfl⟩ := h0
  obtain ⟨l, rfl⟩ := dec_vts he
  obtain ⟨v, _, rfl⟩ := dec_vt _ hv
  have h1 := wt_vt l
  have hw' : wtAll (l.map vt) ≤ 1048576 := by simp only [mkV, List.cons_append, List.nil_append, PV.wt, wtAll] at hw; omega
  exact (acceptHolds_sat (p, l) b v c (by show l.length ≤ _; omega) []).mono fun _ _ h => h.1

end Go.Proofs.Ytflgoabdgibphaa.Pv
