/- The law of what is spread: the walk. -/
import Derived.Test.YtilfahfadlijcaaSiteL
namespace Go.Proofs.Ytilfahfadlijcaa.Pv
open Go
set_option linter.unusedVariables false
set_option linter.unusedSimpArgs false
set_option maxRecDepth 100000

theorem nodup_map {α β : Type} {f : α → β} (hf : ∀ a b, f a = f b → a = b) {l : List α} (h : l.Nodup) : (l.map f).Nodup := by
  rw [List.Nodup, List.pairwise_map]
  exact List.Pairwise.imp (fun hne e => hne (hf _ _ e)) h

/-- What is so of places that are spread. -/
theorem spread_ok {vol r many nodes : Int} {live : List Bool} (h : (spreadP vol r many nodes live).2 = 0) :
    (∀ p ∈ (spreadP vol r many nodes live).1, livesP p.2 live = true ∧ p.1 = r ∧ p.2 < nodes) ∧ (spreadP vol r many nodes live).1.Nodup ∧ ((spreadP vol r many nodes live).1.length : Int) = many := by
  unfold spreadP at h ⊢
  split
  · rename_i h'; rw [if_pos h'] at h; cases h
  · rename_i h'
    rw [if_neg h'] at h
    split
    · rename_i h2; rw [if_pos h2] at h; cases h
    · rename_i h2
      have g1 : 0 ≤ vol := by omega
      have g2 : 1 ≤ nodes := by omega
      have g3 : nodes ≤ 64 := by omega
      have hp := ring_perm (vol := vol) (nodes := nodes) live g1 g2 g3
      have hnd : (ringP vol nodes live).Nodup := by
        rw [hp.nodup_iff]
        exact List.filter_sublist.nodup (nodup_map (fun a b e => by have e : ((a : Nat) : Int) = (b : Nat) := e; omega) List.nodup_range)
      simp only
      refine ⟨fun p hp' => ?_, ?_, by simp; omega⟩
      · obtain ⟨n, hn, rfl⟩ := List.mem_map.1 hp'
        have hn := hp.mem_iff.1 (List.mem_of_mem_take hn)
        obtain ⟨h3, h4⟩ := List.mem_filter.1 hn
        obtain ⟨k, hk, rfl⟩ := List.mem_map.1 h3
        have := List.mem_range.1 hk
        exact ⟨h4, rfl, by simp only; omega⟩
      · have h5 : ((ringP vol nodes live).take many.toNat).Nodup := (List.take_sublist _ _).nodup hnd
        exact nodup_map (fun a b e => (Prod.ext_iff.1 e).2) h5

theorem spread_bad {vol r many nodes : Int} {live : List Bool} (h : (spreadP vol r many nodes live).2 ≠ 0) : (spreadP vol r many nodes live).1 = [] := by
  unfold spreadP at h ⊢
  split
  · rfl
  · rename_i h'
    rw [if_neg h'] at h
    split
    · rfl
    · rename_i h2; rw [if_neg h2] at h; exact absurd rfl h

theorem getD_mem {α : Type} [Inhabited α] {xs : List α} {i : Nat} (h : i < xs.length) : xs.getD i default ∈ xs := by simp [List.getD, h]
theorem getD_ne {α : Type} [Inhabited α] {xs : List α} (hn : xs.Nodup) {i k : Nat} (hk : k < i) (hi : i < xs.length) : xs.getD k default ≠ xs.getD i default := by
  intro e
  simp only [List.getD, List.getElem?_eq_getElem hi, List.getElem?_eq_getElem (show k < xs.length by omega), Option.getD_some] at e
  have := (List.getElem_inj hn).1 e
  omega

theorem siteApart_sat (vol r many nodes : Int) (live : List Bool) (σ : Sto) : SatCall Try.prog 6 [.agg [.int .i64 vol, .int .i64 r, .int .i64 many, .int .i64 nodes, .sl .sh 1 (live.map .bool)]] σ fun x σ' => x = .bool true ∧ σ' = σ := by
  refine sat_fn tab Try.func6 rfl (Nat.le_of_ble_eq_true rfl) (by decide) fun hso => sat_base ?_
  have hlen := spreadP_len vol r many nodes live
  repeat' (first | (apply og_ops; (first | (apply og_guard; (apply ops_guard_t; exact (rfl : _ = some _); exact (rfl : _ = PV.bool _); (exact rfl))) | (apply og_move; (apply op_move (tt := tt); (focus ((conv => lhs; whnf); try exact rfl)); exact rfl)) | (apply og_assign; (apply op_assign (tt := tt); (focus ((conv => lhs; whnf); try exact rfl)); exact rfl)) | (apply og_callv; (first | (refine op_callP (tt := tt) cal9 (shown_sat _) rfl rfl rfl rfl rfl ?_) | (refine op_callP (tt := tt) cal15 (spread_sat _ _ _ _ _ _) rfl rfl rfl rfl rfl ?_))) | (apply og_bin; (apply op_bin true tab; (focus ((conv => lhs; whnf; arg 1; whnf; arg 2; whnf); try exact rfl)); (exact trivial); exact rfl)) | (apply og_pick; (apply op_pick (tt := tt); exact (rfl : _ = PV.bool _); (refine .inl ⟨rfl, ?_⟩); (focus ((conv => lhs; whnf); try exact rfl)); exact ltn rfl)) | (apply og_load; (apply op_lk; (apply lk_loadX tab; exact rfl; exact rfl; exact rfl; (focus ((conv => lhs; whnf; arg 1; whnf; arg 2; whnf); try skip)); (exact trivial)); (intro c h; cases h); exact rfl)) | (apply og_callb; (apply op_len tab; (focus ((conv => lhs; whnf; arg 1; whnf; arg 2; whnf); try exact rfl)); (exact trivial); exact rfl)) | (apply og_fieldAddr; (apply op_lk; (apply lk_fieldAddrB tab; exact rfl; (focus ((conv => lhs; whnf); try exact rfl)); exact rfl; (first | exact (rfl : _ = 0) | exact (rfl : _ = 1) | exact (rfl : _ = 2) | exact (rfl : _ = 3) | exact (rfl : _ = 4))); (intro c h; cases h); exact rfl)) | (apply og_extract; (apply op_extract (tt := tt); (focus ((conv => lhs; whnf; arg 1; whnf; arg 2; whnf); try exact rfl)); (exact trivial); exact rfl)) | (apply og_box; (apply op_boxX (tt := tt); (focus ((conv => lhs; whnf); try exact rfl)); exact rfl; (exact (rfl : _ = 0)); exact rfl)) | (apply ops_nil))) | (apply og_sat; (first | (apply sat_seq) | (apply sat_region) | (apply sat_cond; exact (rfl : _ = PV.bool _); all_goals intro hb) | (apply sat_skip) | (apply sat_ret) | (apply sat_block))) | (apply pe_norm) | (apply pe_ret))
  · (change fnPost _ _ _ _ _ _ _; apply fn_end1; (exact .inr rfl); exact rfl; (focus ((conv => lhs; whnf); try exact rfl)); exact Wk.same _; exact rfl; exact rfl; exact Nat.le_refl _; exact trivial; exact hso)
    have h : (spreadP vol r many nodes live).2 ≠ 0 := by simpa using hb
    rw [spread_bad h]
    exact ⟨rfl, rfl⟩
  · have h : (spreadP vol r many nodes live).2 = 0 := by simpa using hb
    obtain ⟨h1, h2, h3⟩ := spread_ok h
    generalize (spreadP vol r many nodes live).1 = ps at h1 h2 h3 hlen ⊢
    refine sat_loopW (fun i : Nat => [(4, .int .i64 r), (5, .int .i64 many), (6, .int .i64 nodes), (7, .sl .sh 1 (live.map .bool)), (8, .bool true), (9, .sl .sh 2 (ps.map plc)), (11, .int .i64 i)]) (fun _ => _) (fun i => i ≤ ps.length) (fun i => ps.length - i) 0 (Nat.zero_le _) ?_ rfl ?_
    · (repeat' (first | exact trivial | exact Wk.same _ | refine ⟨?_, ?_⟩))
    intro i hi
    rcases Nat.lt_or_ge i ps.length with hlt | hge
    · have c1 : decide ((i : Int) < ((ps.map plc).length : Int)) = true := by simp; omega
      obtain ⟨k1, k2, k3⟩ := h1 _ (getD_mem hlt)
      have c2 : (!livesP (ps.getD (i : Int).toNat default).2 live) = false := by rw [Int.toNat_natCast, k1]; rfl
      have c3 : ((ps.getD (i : Int).toNat default).1 != r) = false := by rw [Int.toNat_natCast, k2]; simp
      have c4 : decide (nodes ≤ (ps.getD (i : Int).toNat default).2) = false := by rw [Int.toNat_natCast]; simp only [decide_eq_false_iff_not]; omega
      repeat' (first | (apply og_ops; (first | (apply og_guard; (apply ops_guard_t; exact (rfl : _ = some _); exact (rfl : _ = PV.bool _); (assumption))) | (apply og_move; (apply op_move (tt := tt); (focus ((conv => lhs; whnf); try exact rfl)); exact rfl)) | (apply og_assign; (apply op_assign (tt := tt); (focus ((conv => lhs; whnf); try exact rfl)); exact rfl)) | (apply og_callv; (refine op_callP (tt := tt) cal11 (lawlives_sat _ _ _) rfl rfl rfl rfl rfl ?_)) | (apply og_bin; (apply op_bin true tab; (focus ((conv => lhs; whnf; arg 1; whnf; arg 2; whnf); try exact rfl)); (exact trivial); exact rfl)) | (apply og_pick; (apply op_pick (tt := tt); exact (rfl : _ = PV.bool _); (refine .inr ⟨by assumption, ?_⟩); (focus ((conv => lhs; whnf); try exact rfl)); exact ltn rfl)) | (apply og_load; (apply op_load tab; (focus ((conv => lhs; whnf; arg 1; whnf; arg 2; whnf); try skip)); (exact trivial); exact rfl)) | (apply og_callb; (apply op_len tab; (focus ((conv => lhs; whnf; arg 1; whnf; arg 2; whnf); try exact rfl)); (exact trivial); exact rfl)) | (apply og_indexAddr; (refine op_indexMap (tI := 3) _ tab rfl (by (focus ((conv => lhs; whnf); try exact rfl))) (by (focus ((conv => lhs; whnf); try exact rfl))) rfl (by (omega)) (by (omega)) (by (focus ((conv => lhs; whnf); try exact rfl))) (ltn rfl) ?_)) | (apply og_fieldAddr; (apply op_lk; (apply lk_fieldAddrC tab; exact rfl; (focus ((conv => lhs; whnf); try exact rfl)); exact rfl; exact rfl; (focus ((conv => lhs; whnf); try exact rfl))); (intro c h; cases h); exact rfl)) | (apply og_un; (apply op_un (tt := tt) true; (focus ((conv => lhs; whnf; arg 1; whnf; arg 2; whnf); try exact rfl)); (exact trivial); exact rfl)) | (apply ops_nil))) | (apply og_sat; (first | (apply sat_seq) | (apply sat_region) | (apply sat_cond_t; exact rfl; (assumption)) | (apply sat_cond_f; exact rfl; (assumption)) | (apply sat_skip) | (apply sat_block))) | (apply pe_norm))
      refine sat_loopW (fun k : Nat => [(4, .int .i64 r), (5, .int .i64 many), (6, .int .i64 nodes), (7, .sl .sh 1 (live.map .bool)), (8, .bool true), (9, .sl .sh 2 (ps.map plc)), (11, .int .i64 i), (13, .int .i64 k)]) (fun _ => _) (fun k => k ≤ i) (fun k => i - k) 0 (Nat.zero_le _) ?_ rfl ?_
      · (repeat' (first | exact trivial | exact Wk.same _ | refine ⟨?_, ?_⟩))
      intro k hk
      rcases Nat.lt_or_ge k i with hki | hki
      · have d1 : decide ((k : Int) < (i : Int)) = true := by simp; omega
        have hne := getD_ne h2 hki hlt
        repeat' (first | (apply og_ops; (first | (apply og_move; (apply op_move (tt := tt); (focus ((conv => lhs; whnf); try exact rfl)); exact rfl)) | (apply og_assign; (apply op_assign (tt := tt); (focus ((conv => lhs; whnf); try exact rfl)); exact rfl)) | (apply og_bin; (first | (apply op_bin true tab; (focus ((conv => lhs; whnf; arg 1; whnf; arg 2; whnf); try exact rfl)); (first | exact trivial | (simp only [InR]; omega)); exact rfl) | (apply op_lk; (apply lk_eql tab eqok; exact rfl; exact rfl; (focus ((conv => lhs; whnf); try exact rfl)); (focus ((conv => lhs; whnf); try exact rfl)); exact rfl; exact rfl); (intro c h; cases h); exact rfl))) | (apply ops_nil))) | (apply og_sat; (first | (apply sat_seq) | (apply sat_region) | (apply sat_cond_t; exact rfl; (assumption)) | (apply sat_cond; exact (rfl : _ = PV.bool _); all_goals intro hb) | (apply sat_skip) | (apply sat_ret) | (apply sat_block) | (apply sat_drawC (k := 8); exact mixed; decide +kernel; decide +kernel))) | (apply pe_norm) | (apply pe_ret) | (apply pb_norm) | (apply pb_ret) | (apply og_dd; (first | (apply dd_lk; (first | (apply lg_indexAddr; exact lk_indexMap (tI := 3) _ tab rfl (by (focus ((conv => lhs; whnf); try exact rfl))) (by (focus ((conv => lhs; whnf); try exact rfl))) rfl (by (omega)) (by (omega)) (by (focus ((conv => lhs; whnf); try exact rfl)))) | (apply lg_move; (apply lk_move (tt := tt); (focus ((conv => lhs; whnf); try exact rfl)))) | (apply lg_load; (apply lk_load tab; (focus ((conv => lhs; whnf; arg 1; whnf; arg 2; whnf); try skip)); (exact Nat.le_of_ble_eq_true rfl)))); exact rfl; exact rfl) | (apply dd_nil))))
        · exfalso
          exact hne (Prod.ext_iff.2 (by simpa using hb))
        · refine ⟨k + 1, by omega, by omega, ?_, rfl⟩
          (repeat' (first | exact trivial | exact Wk.same _ | refine ⟨?_, ?_⟩))
      · have d1 : decide ((k : Int) < (i : Int)) = false := by simp; omega
        repeat' (first | (apply og_ops; (first | (apply og_move; (apply op_move (tt := tt); (focus ((conv => lhs; whnf); try exact rfl)); exact rfl)) | (apply og_assign; (apply op_assign (tt := tt); (focus ((conv => lhs; whnf); try exact rfl)); exact rfl)) | (apply og_bin; (apply op_bin true tab; (focus ((conv => lhs; whnf; arg 1; whnf; arg 2; whnf); try exact rfl)); (first | exact trivial | (simp only [InR]; omega)); exact rfl)) | (apply ops_nil))) | (apply og_sat; (first | (apply sat_seq) | (apply sat_region) | (apply sat_cond_f; exact rfl; (assumption)) | (apply sat_exit))) | (apply pe_norm) | (apply pb_norm) | (apply pe_exit) | (apply pb_same))
        refine ⟨i + 1, by omega, by omega, ?_, rfl⟩
        (repeat' (first | exact trivial | exact Wk.same _ | refine ⟨?_, ?_⟩))
    · have c1 : decide ((i : Int) < ((ps.map plc).length : Int)) = false := by simp; omega
      repeat' (first | (apply og_ops; (first | (apply og_guard; (apply ops_guard_t; exact (rfl : _ = some _); exact (rfl : _ = PV.bool _); (exact rfl))) | (apply og_move; (apply op_move (tt := tt); (focus ((conv => lhs; whnf); try exact rfl)); exact rfl)) | (apply og_assign; (apply op_assign (tt := tt); (focus ((conv => lhs; whnf); try exact rfl)); exact rfl)) | (apply og_bin; (apply op_bin true tab; (focus ((conv => lhs; whnf; arg 1; whnf; arg 2; whnf); try exact rfl)); (exact trivial); exact rfl)) | (apply og_pick; (apply op_pick (tt := tt); exact (rfl : _ = PV.bool _); (refine .inl ⟨rfl, ?_⟩); (focus ((conv => lhs; whnf); try exact rfl)); exact ltn rfl)) | (apply og_callb; (apply op_len tab; (focus ((conv => lhs; whnf; arg 1; whnf; arg 2; whnf); try exact rfl)); (exact trivial); exact rfl)) | (apply ops_nil))) | (apply og_sat; (first | (apply sat_seq) | (apply sat_region) | (apply sat_cond_f; exact rfl; (assumption)) | (apply sat_ret) | (apply sat_exit))) | (apply pe_norm) | (apply pe_exit) | (apply pb_same))
      (change fnPost _ _ _ _ _ _ _; apply fn_end1; (exact .inr rfl); exact rfl; (focus ((conv => lhs; whnf); try exact rfl)); exact Wk.same _; exact rfl; exact rfl; exact Nat.le_refl _; exact trivial; exact hso)
      exact ⟨by simp [h3], rfl⟩

theorem siteApart_law (c0 : List PV) (h0 : HasC (.struct [.int .i64, .int .i64, .int .i64, .int .i64, .sl 1 .bool]) c0) :
    SatCall Try.prog 6 [mkV (.struct [.int .i64, .int .i64, .int .i64, .int .i64, .sl 1 .bool]) c0] [] fun r _ => r = .bool true := by
  obtain ⟨_, _, rfl, ⟨a, _, rfl⟩, _, _, rfl, ⟨b, _, rfl⟩, _, _, rfl, ⟨c, _, rfl⟩, _, _, rfl, ⟨d, _, rfl⟩, _, _, rfl, ⟨es, rfl, _, he⟩, rfl⟩ := h0
  obtain ⟨bs, rfl, _⟩ := elems_of PV.bool (fun _ => True) dec_bool he
  exact (siteApart_sat a b c d bs []).mono fun _ _ h => h.1

end Go.Proofs.Ytilfahfadlijcaa.Pv
