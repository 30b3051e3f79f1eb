/- PlanHomes. -/
import Derived.Test.YtenmnbjhebmpjaaPlnM
namespace Go.Proofs.Ytenmnbjhebmpjaa.Pv
open Go
set_option linter.unusedVariables false
set_option linter.unusedSimpArgs false
set_option maxRecDepth 100000

theorem nodup_mapL {α β : Type} {f : α → β} (hf : ∀ a b, f a = f b → a = b) {l : List α} (h : l.Nodup) : (l.map f).Nodup := by
  rw [List.Nodup, List.pairwise_map]
  exact List.Pairwise.imp (fun hne e => hne (hf _ _ e)) h

theorem ring_two {vol nodes : Int} (h0 : 0 ≤ vol) (h1 : 2 ≤ nodes) (h2 : nodes ≤ 64) : ∃ a b r, ringP vol nodes (allP nodes) = a :: b :: r ∧ a ≠ b := by
  have hp := ring_perm (vol := vol) (nodes := nodes) (allP nodes) h0 (by omega) h2
  have hK : allK nodes = nodes.toNat := by unfold allK; omega
  have hall : (((List.range nodes.toNat).map fun n : Nat => (n : Int)).filter (livesP · (allP nodes))) = (List.range nodes.toNat).map fun n : Nat => (n : Int) := by
    rw [List.filter_eq_self]
    intro z hz
    obtain ⟨k, hk, rfl⟩ := List.mem_map.1 hz
    have hk := List.mem_range.1 hk
    simp only [livesP, allP, hK, List.length_replicate, Bool.and_eq_true, decide_eq_true_eq]
    refine ⟨by omega, ?_⟩
    rw [List.getD_eq_getElem?_getD, List.getElem?_replicate, if_pos (by simpa using hk)]; rfl
  have hlen : (ringP vol nodes (allP nodes)).length = nodes.toNat := by
    have := hp.length_eq
    rw [hall] at this
    simpa using this
  have hnd : (ringP vol nodes (allP nodes)).Nodup := by
    rw [hp.nodup_iff, hall]
    exact nodup_mapL (fun a b e => by have e : ((a : Nat) : Int) = (b : Nat) := e; omega) List.nodup_range
  match hr : ringP vol nodes (allP nodes), hlen, hnd with
  | [], hl, _ => simp at hl; omega
  | [a], hl, _ => simp at hl; omega
  | a :: b :: r, _, hn => exact ⟨a, b, r, rfl, fun e => by subst e; simp at hn⟩

theorem spread_two {vol r nodes : Int} (hr : 1 ≤ r ∧ r ≤ 3) (h0 : 0 ≤ vol) (h1 : 2 ≤ nodes) (h2 : nodes ≤ 64) : ∃ a b, (spreadP vol r 2 nodes (allP nodes)).1 = [(r, a), (r, b)] ∧ a ≠ b := by
  obtain ⟨a, b, q, e, hne⟩ := ring_two h0 h1 h2
  refine ⟨a, b, ?_, hne⟩
  unfold spreadP
  rw [if_neg (by omega), e, if_neg (by simp; omega)]
  rfl

set_option maxHeartbeats 4000000 in
theorem planHomes_sat (v : Vl) (nodes : Int) (σ : Sto) : SatCall Try.prog 7 [vl v, .int .i64 nodes] σ fun r σ' => r = .bool true ∧ σ' = σ := by
  refine sat_fn tab Try.func7 rfl (Nat.le_of_ble_eq_true rfl) (by decide) fun hso => sat_base ?_
  have hh := homes_sat v nodes
  by_cases hc : (1 ≤ v.home ∧ v.home ≤ 3) ∧ (1 ≤ v.mate ∧ v.mate ≤ 3) ∧ v.home ≠ v.mate ∧ 0 ≤ v.id ∧ 2 ≤ nodes ∧ nodes ≤ 64
  · obtain ⟨g1, g2, g3, g4, g5, g6⟩ := hc
    obtain ⟨a, b, e1, n1⟩ := spread_two g1 g4 g5 g6
    obtain ⟨c, d, e2, n2⟩ := spread_two g2 g4 g5 g6
    have e3 : homesP v nodes = [(v.home, a), (v.home, b), (v.mate, c), (v.mate, d)] := by unfold homesP; rw [e1, e2]; rfl
    rw [e3] at hh
    have c1 : decide (v.home < 1) = false := decide_eq_false (by omega)
    have c2 : decide (3 < v.home) = false := decide_eq_false (by omega)
    have c3 : decide (v.mate < 1) = false := decide_eq_false (by omega)
    have c4 : decide (3 < v.mate) = false := decide_eq_false (by omega)
    have c5 : (v.home == v.mate) = false := by simpa using g3
    have c6 : decide (v.id < 0) = false := decide_eq_false (by omega)
    have c7 : decide (nodes < 2) = false := decide_eq_false (by omega)
    have c8 : decide (64 < nodes) = false := decide_eq_false (by omega)
    have c9 : (v.home != v.home) = false := by simp
    have c10 : (v.mate != v.mate) = false := by simp
    repeat' (first | (apply og_ops; (first | (apply og_guard; (first | (apply ops_guard_t; exact (rfl : _ = some _); exact (rfl : _ = PV.bool _); (assumption)) | (apply ops_guard_f'; exact (rfl : _ = some _); exact (rfl : _ = PV.bool _); (assumption); exact ltn rfl))) | (apply og_move; (apply op_move (tt := tt); (focus ((conv => lhs; whnf); try exact rfl)); exact rfl)) | (apply og_assign; (apply op_assign (tt := tt); (focus ((conv => lhs; whnf); try exact rfl)); exact rfl)) | (apply og_callv; (first | (refine op_callP (tt := tt) cal9 (shown_sat _) rfl rfl rfl rfl rfl ?_) | (refine op_callP (tt := tt) cal16 (hh _) rfl rfl rfl rfl rfl ?_))) | (apply og_bin; (first | (apply op_bin true tab; (focus ((conv => lhs; whnf; arg 1; whnf; arg 2; whnf); try exact rfl)); (exact trivial); exact rfl) | (apply op_lk; (apply lk_neq tab eqok; exact rfl; exact rfl; (focus ((conv => lhs; whnf); try exact rfl)); (focus ((conv => lhs; whnf); try exact rfl)); exact rfl; exact rfl); (intro c h; cases h); exact rfl))) | (apply og_pick; (apply op_pick (tt := tt); exact (rfl : _ = PV.bool _); (first | refine .inl ⟨by assumption, ?_⟩ | refine .inr ⟨by assumption, ?_⟩); (focus ((conv => lhs; whnf); try exact rfl)); exact ltn rfl)) | (apply og_load; (apply op_lk; (apply lk_loadX tab; exact rfl; exact rfl; exact rfl; (focus ((conv => lhs; whnf; arg 1; whnf; arg 2; whnf); try skip)); (first | exact trivial | exact Nat.le_of_ble_eq_true rfl)); (intro c h; cases h); exact rfl)) | (apply og_fieldAddr; (apply op_lk; (apply lk_fieldAddrB tab; exact rfl; (focus ((conv => lhs; whnf); try exact rfl)); exact rfl; (first | exact (rfl : _ = 0) | exact (rfl : _ = 1) | exact (rfl : _ = 2))); (intro c h; cases h); exact rfl)) | (apply og_box; (apply op_boxX (tt := tt); (focus ((conv => lhs; whnf); try exact rfl)); exact rfl; (exact (rfl : _ = 0)); exact rfl)) | (apply ops_nil))) | (apply og_sat; (first | (apply sat_seq) | (apply sat_region) | (apply sat_cond_f; exact rfl; (assumption)) | (apply sat_skip) | (apply sat_ret) | (apply sat_drawC (k := 37); exact mixed; decide +kernel; decide +kernel) | (apply sat_drawC (k := 17); exact mixed; decide +kernel; decide +kernel))) | (apply pe_norm) | (apply og_dd; (first | (apply dd_lk; (first | (apply lg_move; (apply lk_move (tt := tt); (focus ((conv => lhs; whnf); try exact rfl)))) | (apply lg_bin; (apply lk_bin true tab; (focus ((conv => lhs; whnf; arg 1; whnf; arg 2; whnf); try exact rfl)); (exact trivial))) | (apply lg_callb; (apply lk_len tab; (focus ((conv => lhs; whnf; arg 1; whnf; arg 2; whnf); try exact rfl)); (exact trivial))) | (apply lg_pick; (apply lk_pick (tt := tt); exact (rfl : _ = PV.bool _); (first | refine .inl ⟨rfl, ?_⟩ | refine .inr ⟨rfl, ?_⟩ | refine .inr ⟨by assumption, ?_⟩); (focus ((conv => lhs; whnf); try exact rfl))))); exact rfl; exact rfl) | (apply dd_no2; exact (rfl : _ = some _); exact (rfl : _ = PV.bool _); (assumption); exact rfl) | (apply dd_lkg; exact (rfl : _ = some _); exact (rfl : _ = PV.bool _); (first | exact rfl | assumption); (first | (apply lg_indexAddr; exact lk_indexMap (tI := 3) _ tab rfl (by (focus ((conv => lhs; whnf); try exact rfl))) (by (focus ((conv => lhs; whnf); try exact rfl))) rfl (by (omega)) (by (simp only [List.length_map, List.length_cons, List.length_append, List.length_nil]; omega)) (by (focus ((conv => lhs; whnf); try exact rfl)))) | (apply lg_move; (apply lk_move (tt := tt); (focus ((conv => lhs; whnf); try exact rfl)))) | (apply lg_bin; (first | (apply lk_bin true tab; (focus ((conv => lhs; whnf; arg 1; whnf; arg 2; whnf); try exact rfl)); (exact trivial)) | (apply lk_neq tab eqok; exact rfl; exact rfl; (focus ((conv => lhs; whnf); try exact rfl)); (focus ((conv => lhs; whnf); try exact rfl)); exact rfl; exact rfl))) | (apply lg_fieldAddr; (first | (apply lk_fieldAddrB tab; exact rfl; (focus ((conv => lhs; whnf); try exact rfl)); exact rfl; (first | exact (rfl : _ = 1) | exact (rfl : _ = 2))) | (apply lk_fieldAddrC tab; exact rfl; (focus ((conv => lhs; whnf); try exact rfl)); exact rfl; exact rfl; (focus ((conv => lhs; whnf); try exact rfl))))) | (apply lg_load; (first | (apply lk_loadX tab; exact rfl; exact rfl; exact rfl; (focus ((conv => lhs; whnf; arg 1; whnf; arg 2; whnf); try skip)); (exact trivial)) | (apply lk_load tab; (focus ((conv => lhs; whnf; arg 1; whnf; arg 2; whnf); try skip)); (first | exact trivial | exact Nat.le_of_ble_eq_true rfl))))); exact rfl; exact rfl) | (apply dd_gsplit; exact (rfl : _ = some _); exact (rfl : _ = PV.bool _); all_goals intro hb) | (apply dd_nil))))
    all_goals (change fnPost _ _ _ _ _ _ _; apply fn_endN; (exact .inr rfl); (focus (repeat' (first | (apply rr_tmp; (focus ((conv => lhs; whnf); try exact rfl)); (exact Wk.same _)) | exact rr_nil))); exact rfl; (exact rfl); exact Nat.le_refl _; (focus (repeat' (first | exact trivial | refine ⟨?_, ?_⟩))); exact hso)
    all_goals refine ⟨?_, rfl⟩
    all_goals first
      | (simp [resOf]; done)
      | (simp [resOf]; exact n2)
      | (simp [resOf]; exact n1)
      | (exfalso; simp at hb; exact n1 hb)
  · repeat' (first | (apply og_ops; (first | (apply og_guard; (first | (apply ops_guard_t; exact (rfl : _ = some _); exact (rfl : _ = PV.bool _); (assumption)) | (apply ops_guard_f'; exact (rfl : _ = some _); exact (rfl : _ = PV.bool _); (first | exact rfl | assumption); exact ltn rfl) | (apply ops_gsplit; exact (rfl : _ = some _); exact (rfl : _ = PV.bool _); all_goals intro hb))) | (apply og_move; (apply op_move (tt := tt); (focus ((conv => lhs; whnf); try exact rfl)); exact rfl)) | (apply og_assign; (apply op_assign (tt := tt); (focus ((conv => lhs; whnf); try exact rfl)); exact rfl)) | (apply og_callv; (first | (refine op_callP (tt := tt) cal9 (shown_sat _) rfl rfl rfl rfl rfl ?_) | (refine op_callP (tt := tt) cal16 (hh _) rfl rfl rfl rfl rfl ?_))) | (apply og_bin; (first | (apply op_bin true tab; (focus ((conv => lhs; whnf; arg 1; whnf; arg 2; whnf); try exact rfl)); (exact trivial); exact rfl) | (apply op_lk; (apply lk_neq tab eqok; exact rfl; exact rfl; (focus ((conv => lhs; whnf); try exact rfl)); (focus ((conv => lhs; whnf); try exact rfl)); exact rfl; exact rfl); (intro c h; cases h); exact rfl))) | (apply og_pick; (apply op_pick (tt := tt); exact (rfl : _ = PV.bool _); (first | refine .inl ⟨rfl, ?_⟩ | refine .inl ⟨by assumption, ?_⟩ | refine .inr ⟨by assumption, ?_⟩); (focus ((conv => lhs; whnf); try exact rfl)); exact ltn rfl)) | (apply og_load; (apply op_lk; (apply lk_loadX tab; exact rfl; exact rfl; exact rfl; (focus ((conv => lhs; whnf; arg 1; whnf; arg 2; whnf); try skip)); (first | exact trivial | exact Nat.le_of_ble_eq_true rfl)); (intro c h; cases h); exact rfl)) | (apply og_fieldAddr; (apply op_lk; (apply lk_fieldAddrB tab; exact rfl; (focus ((conv => lhs; whnf); try exact rfl)); exact rfl; (first | exact (rfl : _ = 0) | exact (rfl : _ = 1) | exact (rfl : _ = 2))); (intro c h; cases h); exact rfl)) | (apply og_box; (apply op_boxX (tt := tt); (focus ((conv => lhs; whnf); try exact rfl)); exact rfl; (exact (rfl : _ = 0)); exact rfl)) | (apply ops_nil))) | (apply og_sat; (first | (apply sat_seq) | (apply sat_region) | (apply sat_cond_t; exact rfl; (exact rfl)) | (apply sat_cond; exact (rfl : _ = PV.bool _); all_goals intro hb) | (apply sat_skip) | (apply sat_ret) | (apply sat_drawC (k := 37); exact mixed; decide +kernel; decide +kernel) | (apply sat_drawC (k := 17); exact mixed; decide +kernel; decide +kernel))) | (apply pe_norm) | (apply pe_ret) | (apply og_dd; (first | (apply dd_lk; (first | (apply lg_move; (apply lk_move (tt := tt); (focus ((conv => lhs; whnf); try exact rfl)))) | (apply lg_bin; (apply lk_bin true tab; (focus ((conv => lhs; whnf; arg 1; whnf; arg 2; whnf); try exact rfl)); (exact trivial))) | (apply lg_callb; (apply lk_len tab; (focus ((conv => lhs; whnf; arg 1; whnf; arg 2; whnf); try exact rfl)); (exact trivial))) | (apply lg_pick; (apply lk_pick (tt := tt); exact (rfl : _ = PV.bool _); (first | refine .inl ⟨rfl, ?_⟩ | refine .inl ⟨by assumption, ?_⟩ | refine .inr ⟨by assumption, ?_⟩); (focus ((conv => lhs; whnf); try exact rfl))))); exact rfl; exact rfl) | (apply dd_no2; exact (rfl : _ = some _); exact (rfl : _ = PV.bool _); (first | exact rfl | assumption); exact rfl) | (apply dd_lkg; exact (rfl : _ = some _); exact (rfl : _ = PV.bool _); (first | exact rfl | assumption); (first | (apply lg_indexAddr; exact lk_indexMap (tI := 3) _ tab rfl (by (focus ((conv => lhs; whnf); try exact rfl))) (by (focus ((conv => lhs; whnf); try exact rfl))) rfl (by (omega)) (by (simp [InR] at *; omega)) (by (focus ((conv => lhs; whnf); try exact rfl)))) | (apply lg_move; (apply lk_move (tt := tt); (focus ((conv => lhs; whnf); try exact rfl)))) | (apply lg_bin; (first | (apply lk_bin true tab; (focus ((conv => lhs; whnf; arg 1; whnf; arg 2; whnf); try exact rfl)); (exact trivial)) | (apply lk_neq tab eqok; exact rfl; exact rfl; (focus ((conv => lhs; whnf); try exact rfl)); (focus ((conv => lhs; whnf); try exact rfl)); exact rfl; exact rfl))) | (apply lg_fieldAddr; (first | (apply lk_fieldAddrB tab; exact rfl; (focus ((conv => lhs; whnf); try exact rfl)); exact rfl; (first | exact (rfl : _ = 1) | exact (rfl : _ = 2))) | (apply lk_fieldAddrC tab; exact rfl; (focus ((conv => lhs; whnf); try exact rfl)); exact rfl; exact rfl; (focus ((conv => lhs; whnf); try exact rfl))))) | (apply lg_load; (first | (apply lk_loadX tab; exact rfl; exact rfl; exact rfl; (focus ((conv => lhs; whnf; arg 1; whnf; arg 2; whnf); try skip)); (exact trivial)) | (apply lk_load tab; (focus ((conv => lhs; whnf; arg 1; whnf; arg 2; whnf); try skip)); (first | exact trivial | exact Nat.le_of_ble_eq_true rfl))))); exact rfl; exact rfl) | (apply dd_gsplit; exact (rfl : _ = some _); exact (rfl : _ = PV.bool _); all_goals intro hb) | (apply dd_nil))))
    all_goals first
      | ((change fnPost _ _ _ _ _ _ _; apply fn_endN; (exact .inr rfl); (focus (repeat' (first | (apply rr_tmp; (focus ((conv => lhs; whnf); try exact rfl)); (exact Wk.same _)) | exact rr_nil))); exact rfl; (exact rfl); exact Nat.le_refl _; (focus (repeat' (first | exact trivial | refine ⟨?_, ?_⟩))); exact hso)
         exact ⟨rfl, rfl⟩)
      | (exfalso; simp only [decide_eq_true_eq, decide_eq_false_iff_not, beq_eq_false_iff_ne, ne_eq] at *; omega)

theorem planHomesUpto_law (c0 : List PV) (h0 : HasC shVl c0) (c1 : List PV) (h1 : HasC (.int .i64) c1) (hw : (mkV shVl c0).wt + (mkV (.int .i64) c1).wt ≤ 1048576) :
    SatCall Try.prog 7 [mkV shVl c0, mkV (.int .i64) c1] [] fun r _ => r = .bool true := by
  obtain ⟨v, e, _⟩ := dec_vl c0 h0
  obtain ⟨n, _, rfl⟩ := h1
  rw [e]
  exact (planHomes_sat v n []).mono fun _ _ h => h.1

end Go.Proofs.Ytenmnbjhebmpjaa.Pv
