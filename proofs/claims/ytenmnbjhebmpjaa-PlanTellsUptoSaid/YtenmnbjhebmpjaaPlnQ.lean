/- PlanTells. -/
import Derived.Test.YtenmnbjhebmpjaaPlnN
import Derived.Test.YtenmnbjhebmpjaaPlnP
namespace Go.Proofs.Ytenmnbjhebmpjaa.Pv
open Go
set_option linter.unusedVariables false
set_option linter.unusedSimpArgs false
set_option maxRecDepth 100000

theorem liveP_len (l : List Iv) (region nodes : Int) : (liveP l region nodes).length ≤ 64 := by
  unfold liveP
  split
  · exact Nat.zero_le _
  · rw [liveTo_len]; omega

theorem planTells_sat (x : Ix) (v : Vl) (hv : List (Int × ByteArray)) (l : List Iv) (p k : Int × Int) (nodes : Int) (hx : x.vols.length ≤ 1048576) (hiv : okIv l) (hpa : v.parts.length ≤ 1048576) (hpl : v.places.length ≤ 1000000) (hl : hv.length ≤ 1048576) (hsz : ∀ y ∈ hv, y.2.size ≤ 1048576) (σ : Sto) :
    SatCall Try.prog 8 [.agg [.sl .sh 9 (x.vols.map vl), .sl .sh 5 (x.names.map nm), .sl .sh 8 (x.last.map ss), .int .i64 v.id, .int .i64 v.home, .int .i64 v.mate, .int .i64 v.used, .int .i64 v.phase, .sl .sh 2 (v.parts.map plc), .sl .sh 2 (v.places.map plc), .int .i64 v.pair, .int .i64 v.sum,
      .sl .sh 2 (hv.map prt), .sl .sh 4 (l.map iv), .int .i64 p.1, .int .i64 p.2, .int .i64 k.1, .int .i64 k.2, .int .i64 nodes]] σ fun r σ' => r = .bool true ∧ σ' = σ := by
  refine sat_fn tab Try.func8 rfl (Nat.le_of_ble_eq_true rfl) (by decide) fun hso => sat_base ?_
  have q1 := homes_sat v nodes
  have q2 := refHomes_sat v nodes
  have q3 := places_sat (homesP v nodes) (homesP v nodes) (by
    have l1 := spreadP_len v.id v.home 2 nodes (allP nodes)
    have l2 := spreadP_len v.id v.mate 2 nodes (allP nodes)
    have e2 : (2 : Int).toNat = 2 := rfl
    unfold homesP
    rw [List.length_append]; omega)
  rw [decide_eq_true rfl] at q3
  have q4 := fill_sat v hv hpa hl
  have q5 := refFill_sat v hv hpa hl hsz
  have q6 := live_sat l p.1 nodes hiv.1
  have q7 := refLive_sat l p.1 nodes hiv.1
  have q8 := lost_sat v l (by omega) hiv
  have q9 := refLost_sat v l (by omega) hiv
  have q10 := ints_sat (lostP v l) (lostP v l) (by have := lostTo_len v l v.places.length; unfold lostP; omega)
  rw [decide_eq_true rfl] at q10
  have q11 := has_sat l p k hiv
  have q12 := refHas_sat l p k hiv
  have q13 := old_sat x k hx
  have q14 := refOld_sat x k hx
  have hll := liveP_len l p.1 nodes
  have d1 : beqS (contP v hv).1 (contP v hv).1 = true := beqS_iff.2 rfl
  have d2 : ((contP v hv).2 == (contP v hv).2) = true := by simp
  have d3 : (hasV l p k == hasV l p k) = true := by simp
  have d4 : (oldP x k == oldP x k) = true := by simp
  have d5 : (((liveP l p.1 nodes).length : Int) != ((liveP l p.1 nodes).length : Int)) = false := by simp
  repeat' (first | (apply og_ops; (first | (apply og_move; (apply op_move (tt := tt); (focus ((conv => lhs; whnf); try exact rfl)); exact rfl)) | (apply og_assign; (apply op_assign (tt := tt); (focus ((conv => lhs; whnf); try exact rfl)); exact rfl)) | (apply og_callv; (first | (refine op_callP (tt := tt) cal9 (shown_sat _) rfl rfl rfl rfl rfl ?_) | (refine op_callP (tt := tt) cal18 (q2 _) rfl rfl rfl rfl rfl ?_) | (refine op_callP (tt := tt) cal17 (q3 _) rfl rfl rfl rfl rfl ?_) | (refine op_callP (tt := tt) cal15 (q4 _) rfl rfl rfl rfl rfl ?_) | (refine op_callP (tt := tt) cal19 (q5 _) rfl rfl rfl rfl rfl ?_) | (refine op_callP (tt := tt) cal20 (q6 _) rfl rfl rfl rfl rfl ?_) | (refine op_callP (tt := tt) cal21 (q7 _) rfl rfl rfl rfl rfl ?_))) | (apply og_bin; (apply op_bin true tab; (focus ((conv => lhs; whnf; arg 1; whnf; arg 2; whnf); try exact rfl)); (exact trivial); exact rfl)) | (apply og_load; (apply op_lk; (apply lk_loadX tab; exact rfl; exact rfl; exact rfl; (focus ((conv => lhs; whnf; arg 1; whnf; arg 2; whnf); try skip)); (first | exact trivial | exact Nat.le_of_ble_eq_true rfl)); (intro c h; cases h); exact rfl)) | (apply og_callb; (apply op_len tab; (focus ((conv => lhs; whnf; arg 1; whnf; arg 2; whnf); try exact rfl)); (exact trivial); exact rfl)) | (apply og_fieldAddr; (apply op_lk; (apply lk_fieldAddrB tab; exact rfl; (focus ((conv => lhs; whnf); try exact rfl)); exact rfl; (first | exact (rfl : _ = 0) | exact (rfl : _ = 3) | exact (rfl : _ = 12) | exact (rfl : _ = 13) | exact (rfl : _ = 14) | exact (rfl : _ = 16) | exact (rfl : _ = 18))); (intro c h; cases h); exact rfl)) | (apply og_extract; (apply op_extract (tt := tt); (focus ((conv => lhs; whnf; arg 1; whnf; arg 2; whnf); try exact rfl)); (exact trivial); exact rfl)) | (apply og_store; (apply op_storeX tab; exact rfl; exact rfl; exact rfl; exact rfl; exact rfl; exact rfl; exact rfl; exact rfl)) | (apply og_alloc; (apply op_allocX tab; exact rfl; exact rfl; (first | exact (rfl : _ = 1) | exact (rfl : _ = 2) | exact (rfl : _ = 3) | exact (rfl : _ = 4)); exact rfl)) | (apply og_box; (apply op_boxX (tt := tt); (focus ((conv => lhs; whnf); try exact rfl)); exact rfl; (exact (rfl : _ = 0)); exact rfl)) | (apply ops_nil))) | (apply og_sat; (first | (apply sat_seq) | (apply sat_region) | (apply sat_cond_f; exact rfl; (simp only [List.length_map]; assumption)) | (apply sat_skip) | (apply sat_block) | (apply sat_drawC (k := 5); exact mixed; decide +kernel; decide +kernel))) | (apply pe_norm) | (apply og_dd; (first | (refine dd_cons (step_call (tt := tt) cal16 (q1 _) rfl rfl rfl rfl rfl) ?_) | (apply dd_lk; (first | (apply lg_move; (apply lk_move (tt := tt); (focus ((conv => lhs; whnf); try exact rfl)))) | (apply lg_load; (apply lk_loadX tab; exact rfl; exact rfl; exact rfl; (focus ((conv => lhs; whnf; arg 1; whnf; arg 2; whnf); try skip)); (exact Nat.le_of_ble_eq_true rfl)))); exact rfl; exact rfl) | (apply dd_nil))))
  refine sat_loopW (fun i : Nat => [(3, .ptr (σ.length + 1) 0), (4, .ptr (σ.length + 2) 0), (6, .sl .sh 4 (l.map iv)), (7, .ptr (σ.length + 3) 0), (8, .ptr (σ.length + 4) 0), (10, .bool true), (11, .bool true), (12, .str (contP v hv).1), (13, .int .i64 (contP v hv).2), (14, .str (contP v hv).1), (15, .int .i64 (contP v hv).2), (16, .sl .sh 1 ((liveP l p.1 nodes).map .bool)), (17, .sl .sh 1 ((liveP l p.1 nodes).map .bool)), (18, .int .i64 i)]) (fun _ => _) (fun i => i ≤ (liveP l p.1 nodes).length) (fun i => (liveP l p.1 nodes).length - i) 0 (Nat.zero_le _) ?_ rfl ?_
  · (repeat' (first | exact trivial | exact Wk.same _ | refine ⟨?_, ?_⟩))
  intro i hi
  rcases Nat.lt_or_ge i (liveP l p.1 nodes).length with hlt | hge
  · have c1 : decide ((i : Int) < ((liveP l p.1 nodes).length : Int)) = true := decide_eq_true (by omega)
    have c2 : ((liveP l p.1 nodes).getD ((i : Nat) : Int).toNat default != (liveP l p.1 nodes).getD ((i : Nat) : Int).toNat default) = false := by simp
    repeat' (first | (apply og_ops; (first | (apply og_move; (apply op_move (tt := tt); (focus ((conv => lhs; whnf); try exact rfl)); exact rfl)) | (apply og_assign; (apply op_assign (tt := tt); (focus ((conv => lhs; whnf); try exact rfl)); exact rfl)) | (apply og_bin; (apply op_bin true tab; (focus ((conv => lhs; whnf; arg 1; whnf; arg 2; whnf); try exact rfl)); (first | exact trivial | (simp only [InR]; omega)); exact rfl)) | (apply og_callb; (apply op_len tab; (focus ((conv => lhs; whnf; arg 1; whnf; arg 2; whnf); try exact rfl)); (exact trivial); exact rfl)) | (apply ops_nil))) | (apply og_sat; (first | (apply sat_seq) | (apply sat_region) | (apply sat_cond_t; exact rfl; (simp only [List.length_map]; assumption)) | (apply sat_cond_f; exact rfl; (assumption)) | (apply sat_skip) | (apply sat_block) | (apply sat_drawC (k := 8); exact mixed; decide +kernel; decide +kernel))) | (apply pe_norm) | (apply pb_norm) | (apply og_dd; (first | (apply dd_lk; (first | (apply lg_indexAddr; exact lk_indexMap (tI := 3) _ tab rfl (by (focus ((conv => lhs; whnf); try exact rfl))) (by (focus ((conv => lhs; whnf); try exact rfl))) rfl (by (omega)) (by (omega)) (by (focus ((conv => lhs; whnf); try exact rfl)))) | (apply lg_move; (apply lk_move (tt := tt); (focus ((conv => lhs; whnf); try exact rfl)))) | (apply lg_load; (apply lk_load tab; (focus ((conv => lhs; whnf; arg 1; whnf; arg 2; whnf); try skip)); (exact trivial)))); exact rfl; exact rfl) | (apply dd_nil))))
    refine ⟨i + 1, by omega, by omega, ?_, rfl⟩
    (repeat' (first | exact trivial | exact Wk.same _ | refine ⟨?_, ?_⟩))
  · have c1 : decide ((i : Int) < ((liveP l p.1 nodes).length : Int)) = false := decide_eq_false (by omega)
    repeat' (first | (apply og_ops; (first | (apply og_guard; (apply ops_guard_t; exact (rfl : _ = some _); exact (rfl : _ = PV.bool _); (assumption))) | (apply og_move; (apply op_move (tt := tt); (focus ((conv => lhs; whnf); try exact rfl)); exact rfl)) | (apply og_assign; (apply op_assign (tt := tt); (focus ((conv => lhs; whnf); try exact rfl)); exact rfl)) | (apply og_callv; (first | (refine op_callP (tt := tt) cal24 (q9 _) rfl rfl rfl rfl rfl ?_) | (refine op_callP (tt := tt) cal22 (q10 _) rfl rfl rfl rfl rfl ?_) | (refine op_callP (tt := tt) cal27 (q14 _) rfl rfl rfl rfl rfl ?_))) | (apply og_bin; (apply op_bin true tab; (focus ((conv => lhs; whnf; arg 1; whnf; arg 2; whnf); try exact rfl)); (exact trivial); exact rfl)) | (apply og_pick; (apply op_pick (tt := tt); exact (rfl : _ = PV.bool _); (refine .inl ⟨by assumption, ?_⟩); (focus ((conv => lhs; whnf); try exact rfl)); exact ltn rfl)) | (apply og_callb; (apply op_len tab; (focus ((conv => lhs; whnf; arg 1; whnf; arg 2; whnf); try exact rfl)); (exact trivial); exact rfl)) | (apply ops_nil))) | (apply og_sat; (first | (apply sat_seq) | (apply sat_region) | (apply sat_cond_f; exact rfl; (simp only [List.length_map]; assumption)) | (apply sat_ret) | (apply sat_exit) | (apply sat_drawC (k := 5); exact mixed; decide +kernel; decide +kernel) | (apply sat_drawC (k := 34); exact mixed; decide +kernel; decide +kernel))) | (apply pe_norm) | (apply pe_exit) | (apply pb_same) | (apply og_dd; (first | (refine dd_cons (step_call (tt := tt) cal23 (q8 _) rfl rfl rfl rfl rfl) ?_) | (refine dd_cons (step_callg (tt := tt) (rfl : _ = some _) (rfl : _ = PV.bool _) (by (first | exact rfl | assumption)) cal25 (q11 _) rfl rfl rfl rfl rfl) ?_) | (refine dd_cons (step_callg (tt := tt) (rfl : _ = some _) (rfl : _ = PV.bool _) (by (first | exact rfl | assumption)) cal26 (q12 _) rfl rfl rfl rfl rfl) ?_) | (refine dd_cons (step_callg (tt := tt) (rfl : _ = some _) (rfl : _ = PV.bool _) (by (assumption)) cal13 (q13 _) rfl rfl rfl rfl rfl) ?_) | (apply dd_lk; (first | (apply lg_move; (apply lk_move (tt := tt); (focus ((conv => lhs; whnf); try exact rfl)))) | (apply lg_load; (apply lk_loadX tab; exact rfl; exact rfl; exact rfl; (focus ((conv => lhs; whnf; arg 1; whnf; arg 2; whnf); try skip)); (exact Nat.le_of_ble_eq_true rfl))) | (apply lg_pick; (apply lk_pick (tt := tt); exact (rfl : _ = PV.bool _); (first | refine .inl ⟨rfl, ?_⟩ | refine .inl ⟨by assumption, ?_⟩); (focus ((conv => lhs; whnf); try exact rfl))))); exact rfl; exact rfl) | (apply dd_lkg; exact (rfl : _ = some _); exact (rfl : _ = PV.bool _); (first | exact rfl | assumption); (first | (apply lg_move; (apply lk_move (tt := tt); (focus ((conv => lhs; whnf); try exact rfl)))) | (apply lg_bin; (apply lk_bin true tab; (focus ((conv => lhs; whnf; arg 1; whnf; arg 2; whnf); try exact rfl)); (exact trivial))) | (apply lg_load; (apply lk_loadX tab; exact rfl; exact rfl; exact rfl; (focus ((conv => lhs; whnf; arg 1; whnf; arg 2; whnf); try skip)); (exact Nat.le_of_ble_eq_true rfl)))); exact rfl; exact rfl) | (apply dd_nil))))
    (change fnPost _ _ _ _ _ _ _; apply fn_endN; (exact .inr rfl); (focus (repeat' (first | (apply rr_tmp; (focus ((conv => lhs; whnf); try exact rfl)); (exact Wk.same _)) | exact rr_nil))); exact rfl; (exact rfl); exact Nat.le_refl _; (focus (repeat' (first | exact trivial | refine ⟨?_, ?_⟩))); exact hso)
    exact ⟨by rw [d4]; rfl, rfl⟩

abbrev shPt : Shp := .struct [.int .i64, .str]
abbrev shTells : Shp := .struct [shIx, shVl, .sl 2 shPt, .sl 4 shIv, shPl, shPl, .int .i64]
theorem dec_pt (c : List PV) (h : HasC shPt c) : ∃ a : Int × ByteArray, mkV shPt c = prt a ∧ c = (prt a).cells := by
  obtain ⟨_, _, rfl, ⟨a, _, rfl⟩, _, _, rfl, ⟨s, _, rfl⟩, rfl⟩ := h
  exact ⟨(a, s), rfl, rfl⟩
theorem wt_plc : ∀ (l : List (Int × Int)), 3 * l.length ≤ wtAll (l.map plc)
  | [] => Nat.zero_le _
  | y :: r => by
    have h1 := wt_plc r
    simp only [List.map_cons, List.length_cons, wtAll, plc, PV.wt] at h1 ⊢; omega
theorem wt_pt : ∀ (l : List (Int × ByteArray)), l.length ≤ wtAll (l.map prt) ∧ ∀ x ∈ l, x.2.size ≤ wtAll (l.map prt)
  | [] => ⟨Nat.zero_le _, fun x h => by cases h⟩
  | y :: r => by
    obtain ⟨h1, h2⟩ := wt_pt r
    simp only [List.map_cons, List.length_cons, wtAll, prt, PV.wt] at h1 h2 ⊢
    refine ⟨by omega, fun x hx => ?_⟩
    cases hx with
    | head => omega
    | tail _ hx => have := h2 x hx; omega

set_option maxHeartbeats 1000000 in
theorem planTellsUpto_law (c0 : List PV) (h0 : HasC shTells c0) (hw : (mkV shTells c0).wt ≤ 1048576) :
    SatCall Try.prog 8 [mkV shTells c0] [] fun r _ => r = .bool true := by
  obtain ⟨_, _, rfl, h1, _, _, rfl, h2, _, _, rfl, ⟨es, rfl, _, he⟩, _, _, rfl, ⟨gs, rfl, _, hg⟩, _, _, rfl, h3, _, _, rfl, h4, _, _, rfl, ⟨n, _, rfl⟩, rfl⟩ := h0
  obtain ⟨x, _, rfl⟩ := dec_ix _ h1
  obtain ⟨v, _, rfl⟩ := dec_vl _ h2
  obtain ⟨hv, rfl⟩ := dec_row prt dec_pt he
  obtain ⟨l, rfl⟩ := dec_row iv dec_iv hg
  obtain ⟨p, _, rfl⟩ := dec_pl _ h3
  obtain ⟨k, _, rfl⟩ := dec_pl _ h4
  have w1 := wt_len (x.vols.map vl)
  rw [List.length_map] at w1
  have w2 := wt_plc v.parts
  have w3 := wt_plc v.places
  obtain ⟨w4, w5⟩ := wt_pt hv
  have hw' : wtAll (x.vols.map vl) + wtAll (v.parts.map plc) + wtAll (v.places.map plc) + wtAll (hv.map prt) + wtAll (l.map iv) ≤ 1048576 := by
    simp only [mkV, ix, vl, plc, PV.cells, List.cons_append, List.nil_append, PV.wt, wtAll] at hw ⊢; omega
  exact (planTells_sat x v hv l p k n (by omega) (okIv_of (by omega)) (by omega) (by omega) (by omega) (fun y hy => by have := w5 y hy; omega) []).mono fun _ _ h => h.1

end Go.Proofs.Ytenmnbjhebmpjaa.Pv
