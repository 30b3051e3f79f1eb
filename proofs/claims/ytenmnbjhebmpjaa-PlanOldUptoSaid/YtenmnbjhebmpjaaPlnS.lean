/- PlanOld. -/
import Derived.Test.YtenmnbjhebmpjaaPlnL
import Derived.Test.YtenmnbjhebmpjaaPlnDec
import Derived.Test.YtenmnbjhebmpjaaLibIdxRefF
namespace Go.Proofs.Ytenmnbjhebmpjaa.Pv
open Go
set_option linter.unusedVariables false
set_option linter.unusedSimpArgs false
set_option maxRecDepth 100000

theorem oldP_iff {x : Ix} {k : Int × Int} : oldP x k = true ↔ oldV x k.1 ∧ 100 ≤ k.2 := by
  unfold oldP oldV
  simp only [Bool.and_eq_true, decide_eq_true_eq, beq_iff_eq]
  constructor
  · rintro ⟨⟨h1, h2⟩, h3⟩
    have e : volP x k.1 = x.vols.getD (volI x k.1).toNat default := if_neg (by unfold volI at h1; omega)
    rw [e] at h2
    exact ⟨⟨h1, h2⟩, h3⟩
  · rintro ⟨⟨h1, h2⟩, h3⟩
    have e : volP x k.1 = x.vols.getD (volI x k.1).toNat default := if_neg (by unfold volI at h1; omega)
    rw [← e] at h2
    exact ⟨⟨h1, h2⟩, h3⟩

set_option maxHeartbeats 1000000 in
theorem planOld_sat (x : Ix) (k : Int × Int) (l : List Cm) (hx : OkB 400000 x) (hl : l.length ≤ 1048576) (hc : ∀ c ∈ l, c.places.length ≤ 1048576 ∧ c.name.size ≤ 1048576) (σ : Sto) :
    SatCall Try.prog 5 [ix x, plc k, .sl .sh 12 (l.map cm)] σ fun r σ' => r = .bool true ∧ σ' = σ := by
  refine sat_fn tab Try.func5 rfl (Nat.le_of_ble_eq_true rfl) (by decide) fun hso => sat_base ?_
  have q1 := old_sat x k (by have := hx.vols; omega)
  repeat' (first | (apply og_ops; (first | (apply og_assign; (apply op_assign (tt := tt); (focus ((conv => lhs; whnf); try exact rfl)); exact rfl)) | (apply og_callv; (first | (refine op_callP (tt := tt) cal9 (shown_sat _) rfl rfl rfl rfl rfl ?_) | (refine op_callP (tt := tt) cal13 (q1 _) rfl rfl rfl rfl rfl ?_))) | (apply og_load; (apply op_lk; (apply lk_loadX tab; exact rfl; exact rfl; exact rfl; (focus ((conv => lhs; whnf; arg 1; whnf; arg 2; whnf); try skip)); (exact Nat.le_of_ble_eq_true rfl)); (intro c h; cases h); exact rfl)) | (apply og_box; (apply op_boxX (tt := tt); (focus ((conv => lhs; whnf); try exact rfl)); exact rfl; (first | exact (rfl : _ = 0) | exact (rfl : _ = 1)); exact rfl)) | (apply ops_nil))) | (apply og_sat; (first | (apply sat_seq) | (apply sat_region) | (apply sat_block))) | (apply pe_norm))
  refine sat_loopW (fun j : Nat => [(2, .sl .sh 12 (l.map cm)), (3, .ptr (σ.length + 0) 0), (4, .ptr (σ.length + 1) 0), (7, .bool true), (8, .bool (oldP x k)), (9, .int .i64 j)]) (fun j => σ ++ [.cells (ix (runX x (l.take j))).cells, .cells (plc k).cells]) (fun j => j ≤ l.length ∧ j ≤ 300) (fun j => l.length - j) 0 ⟨Nat.zero_le _, Nat.zero_le _⟩ ?_ rfl ?_
  · (repeat' (first | exact trivial | exact Wk.same _ | refine ⟨?_, ?_⟩))
  rintro j ⟨hj, hj3⟩
  have hok : OkB 401200 (runX x (l.take j)) := (runX_ok (by decide) (l.take j) x hx).up (by rw [List.length_take]; omega)
  have fin : (¬ (j < l.length ∧ j < 300)) → True := fun _ => trivial
  by_cases hlt : j < l.length ∧ j < 300
  · obtain ⟨h1, h2⟩ := hlt
    have c1 : decide ((j : Int) < (l.length : Int)) = true := decide_eq_true (by omega)
    have c1m : decide ((j : Int) < ((l.map cm).length : Int)) = true := by rw [List.length_map]; exact c1
    have c2 : decide ((j : Int) < 300) = true := decide_eq_true (by omega)
    obtain ⟨g1, g2⟩ := hc _ (getD_memL h1)
    have hD := do15_sat (runX x (l.take j)) (l.getD j default) (hok.ok (by decide)) g1 g2
    have ht : runX x (l.take (j + 1)) = (doX (runX x (l.take j)) (l.getD j default)).1 := by
      rw [← runX_snoc, List.take_succ_eq_append_getElem h1, List.getD_eq_getElem?_getD, List.getElem?_eq_getElem h1]; rfl
    generalize doX (runX x (l.take j)) (l.getD j default) = D at *
    obtain ⟨Y, R⟩ := D
    dsimp only at ht
    repeat' (first | (apply og_ops; (first | (apply og_guard; (apply ops_guard_t; exact (rfl : _ = some _); exact (rfl : _ = PV.bool _); (assumption))) | (apply og_move; (apply op_move (tt := tt); (focus ((conv => lhs; whnf); try exact rfl)); exact rfl)) | (apply og_assign; (apply op_assign (tt := tt); (focus ((conv => lhs; whnf); try exact rfl)); exact rfl)) | (apply og_callv; (refine op_callP (tt := tt) cal14 (hD _) rfl rfl rfl rfl rfl ?_)) | (apply og_bin; (apply op_bin true tab; (focus ((conv => lhs; whnf; arg 1; whnf; arg 2; whnf); try exact rfl)); (first | exact trivial | (simp only [InR]; omega)); exact rfl)) | (apply og_pick; (apply op_pick (tt := tt); exact (rfl : _ = PV.bool _); (refine .inl ⟨by assumption, ?_⟩); (focus ((conv => lhs; whnf); try exact rfl)); exact ltn rfl)) | (apply og_callb; (apply op_len tab; (focus ((conv => lhs; whnf; arg 1; whnf; arg 2; whnf); try exact rfl)); (exact trivial); exact rfl)) | (apply og_store; (apply op_storeX tab; exact rfl; exact rfl; exact rfl; (focus ((conv => lhs; whnf); try exact rfl)); exact rfl; exact rfl; exact rfl; exact rfl)) | (apply ops_nil))) | (apply og_sat; (first | (apply sat_seq) | (apply sat_region) | (apply sat_cond_t; exact rfl; (assumption)) | (apply sat_skip) | (apply sat_block) | (apply sat_drawG1 (id := 6) (k := 10) (keys := [[25], [26], [27], [28], [29], [30], [24], [31], [32], []]) (j := 9); exact mixed; decide +kernel; decide +kernel))) | (apply pe_norm) | (apply pb_norm) | (first | (apply so_lk; (first | (apply lg_indexAddr; exact lk_indexMap (tI := 3) _ tab rfl (by (focus ((conv => lhs; whnf); try exact rfl))) (by (focus ((conv => lhs; whnf); try exact rfl))) rfl (by (omega)) (by (omega)) (by (focus ((conv => lhs; whnf); try exact rfl)))) | (apply lg_move; (apply lk_move (tt := tt); (focus ((conv => lhs; whnf); try exact rfl)))) | (apply lg_extract; (apply lk_extract (tt := tt); (focus ((conv => lhs; whnf; arg 1; whnf; arg 2; whnf); try exact rfl)); (exact trivial))) | (apply lg_load; (first | (apply lk_loadX tab; exact rfl; exact rfl; exact rfl; (focus ((conv => lhs; whnf; arg 1; whnf; arg 2; whnf); try skip)); (exact Nat.le_of_ble_eq_true rfl)) | (apply lk_load tab; (focus ((conv => lhs; whnf; arg 1; whnf; arg 2; whnf); try skip)); (exact Nat.le_of_ble_eq_true rfl))))); exact rfl; exact rfl) | (apply og_so; intro env0)) | (apply eg3; exact rfl; exact rfl; exact rfl) | (apply og_oth; (first | exact oth_nil | (apply oth_same; exact rfl) | (apply oth_no; decide +kernel) | (apply oth_yes))) | (apply og_dg; (first | (apply dg_n) | (apply dg_nil))) | (apply og_dj; (first | (apply dg_turn0_0; exact rfl; exact rfl) | (apply dg_step0_1; exact rfl; exact rfl; exact rfl; exact rfl))))
    refine ⟨j + 1, ⟨by omega, by omega⟩, by omega, ?_, ?_⟩
    · (repeat' (first | exact trivial | exact Wk.same _ | refine ⟨?_, ?_⟩))
    · rw [ht]; rfl
  · have q2 := old_sat (runX x (l.take j)) k (by have := hok.vols; omega)
    have hend : oldP x k = true → oldP (runX x (l.take j)) k = true := fun h => by
      obtain ⟨h1, h2⟩ := oldP_iff.1 h
      exact oldP_iff.2 ⟨runX_old _ _ h1, h2⟩
    generalize runX x (l.take j) = Y at *
    by_cases h1 : j < l.length
    · have c1 : decide ((j : Int) < (l.length : Int)) = true := decide_eq_true (by omega)
      have c1m : decide ((j : Int) < ((l.map cm).length : Int)) = true := by rw [List.length_map]; exact c1
      have c2 : decide ((j : Int) < 300) = false := decide_eq_false (by omega)
      cases ho : oldP x k with
      | true =>
        rw [hend ho] at q2
        repeat' (first | (apply og_ops; (first | (apply og_guard; (apply ops_guard_t; exact (rfl : _ = some _); exact (rfl : _ = PV.bool _); (first | exact rfl | assumption))) | (apply og_move; (apply op_move (tt := tt); (focus ((conv => lhs; whnf); try exact rfl)); exact rfl)) | (apply og_assign; (apply op_assign (tt := tt); (focus ((conv => lhs; whnf); try exact rfl)); exact rfl)) | (apply og_callv; (refine op_callP (tt := tt) cal13 (q2 _) rfl rfl rfl rfl rfl ?_)) | (apply og_bin; (apply op_bin true tab; (focus ((conv => lhs; whnf; arg 1; whnf; arg 2; whnf); try exact rfl)); (exact trivial); exact rfl)) | (apply og_pick; (apply op_pick (tt := tt); exact (rfl : _ = PV.bool _); (first | refine .inl ⟨rfl, ?_⟩ | refine .inr ⟨rfl, ?_⟩ | refine .inl ⟨by assumption, ?_⟩); (focus ((conv => lhs; whnf); try exact rfl)); exact ltn rfl)) | (apply og_load; (apply op_lk; (apply lk_loadX tab; exact rfl; exact rfl; exact rfl; (focus ((conv => lhs; whnf; arg 1; whnf; arg 2; whnf); try skip)); (exact Nat.le_of_ble_eq_true rfl)); (intro c h; cases h); exact rfl)) | (apply og_callb; (apply op_len tab; (focus ((conv => lhs; whnf; arg 1; whnf; arg 2; whnf); try exact rfl)); (exact trivial); exact rfl)) | (apply og_un; (apply op_un (tt := tt) true; (focus ((conv => lhs; whnf; arg 1; whnf; arg 2; whnf); try exact rfl)); (exact trivial); exact rfl)) | (apply ops_nil))) | (apply og_sat; (first | (apply sat_seq) | (apply sat_region) | (apply sat_cond_f; exact rfl; (assumption)) | (apply sat_ret) | (apply sat_exit))) | (apply pe_norm) | (apply pe_exit) | (apply pb_same))
        (change fnPost _ _ _ _ _ _ _; apply fn_endN; (exact .inr rfl); (focus (repeat' (first | (apply rr_tmp; (focus ((conv => lhs; whnf); try exact rfl)); (exact Wk.same _)) | exact rr_nil))); exact rfl; (exact rfl); exact Nat.le_refl _; (focus (repeat' (first | exact trivial | refine ⟨?_, ?_⟩))); exact hso)
        exact ⟨rfl, rfl⟩
      | false =>
        repeat' (first | (apply og_ops; (first | (apply og_guard; (first | (apply ops_guard_t; exact (rfl : _ = some _); exact (rfl : _ = PV.bool _); (first | exact rfl | assumption)) | (apply ops_guard_f'; exact (rfl : _ = some _); exact (rfl : _ = PV.bool _); (exact rfl); exact ltn rfl))) | (apply og_move; (apply op_move (tt := tt); (focus ((conv => lhs; whnf); try exact rfl)); exact rfl)) | (apply og_assign; (apply op_assign (tt := tt); (focus ((conv => lhs; whnf); try exact rfl)); exact rfl)) | (apply og_bin; (apply op_bin true tab; (focus ((conv => lhs; whnf; arg 1; whnf; arg 2; whnf); try exact rfl)); (exact trivial); exact rfl)) | (apply og_pick; (apply op_pick (tt := tt); exact (rfl : _ = PV.bool _); (first | refine .inl ⟨rfl, ?_⟩ | refine .inl ⟨by assumption, ?_⟩); (focus ((conv => lhs; whnf); try exact rfl)); exact ltn rfl)) | (apply og_callb; (apply op_len tab; (focus ((conv => lhs; whnf; arg 1; whnf; arg 2; whnf); try exact rfl)); (exact trivial); exact rfl)) | (apply og_un; (apply op_un (tt := tt) true; (focus ((conv => lhs; whnf; arg 1; whnf; arg 2; whnf); try exact rfl)); (exact trivial); exact rfl)) | (apply ops_nil))) | (apply og_sat; (first | (apply sat_seq) | (apply sat_region) | (apply sat_cond_f; exact rfl; (assumption)) | (apply sat_ret) | (apply sat_exit))) | (apply pe_norm) | (apply pe_exit) | (apply pb_same))
        (change fnPost _ _ _ _ _ _ _; apply fn_endN; (exact .inr rfl); (focus (repeat' (first | (apply rr_tmp; (focus ((conv => lhs; whnf); try exact rfl)); (exact Wk.same _)) | exact rr_nil))); exact rfl; (exact rfl); exact Nat.le_refl _; (focus (repeat' (first | exact trivial | refine ⟨?_, ?_⟩))); exact hso)
        exact ⟨rfl, rfl⟩
    · have c1 : decide ((j : Int) < (l.length : Int)) = false := decide_eq_false (by omega)
      have c1m : decide ((j : Int) < ((l.map cm).length : Int)) = false := by rw [List.length_map]; exact c1
      cases ho : oldP x k with
      | true =>
        rw [hend ho] at q2
        repeat' (first | (apply og_ops; (first | (apply og_guard; (first | (apply ops_guard_t; exact (rfl : _ = some _); exact (rfl : _ = PV.bool _); (exact rfl)) | (apply ops_guard_f'; exact (rfl : _ = some _); exact (rfl : _ = PV.bool _); (assumption); exact ltn rfl))) | (apply og_move; (apply op_move (tt := tt); (focus ((conv => lhs; whnf); try exact rfl)); exact rfl)) | (apply og_assign; (apply op_assign (tt := tt); (focus ((conv => lhs; whnf); try exact rfl)); exact rfl)) | (apply og_callv; (refine op_callP (tt := tt) cal13 (q2 _) rfl rfl rfl rfl rfl ?_)) | (apply og_bin; (apply op_bin true tab; (focus ((conv => lhs; whnf; arg 1; whnf; arg 2; whnf); try exact rfl)); (exact trivial); exact rfl)) | (apply og_pick; (apply op_pick (tt := tt); exact (rfl : _ = PV.bool _); (first | refine .inl ⟨rfl, ?_⟩ | refine .inr ⟨rfl, ?_⟩ | refine .inr ⟨by assumption, ?_⟩); (focus ((conv => lhs; whnf); try exact rfl)); exact ltn rfl)) | (apply og_load; (apply op_lk; (apply lk_loadX tab; exact rfl; exact rfl; exact rfl; (focus ((conv => lhs; whnf; arg 1; whnf; arg 2; whnf); try skip)); (exact Nat.le_of_ble_eq_true rfl)); (intro c h; cases h); exact rfl)) | (apply og_callb; (apply op_len tab; (focus ((conv => lhs; whnf; arg 1; whnf; arg 2; whnf); try exact rfl)); (exact trivial); exact rfl)) | (apply og_un; (apply op_un (tt := tt) true; (focus ((conv => lhs; whnf; arg 1; whnf; arg 2; whnf); try exact rfl)); (exact trivial); exact rfl)) | (apply ops_nil))) | (apply og_sat; (first | (apply sat_seq) | (apply sat_region) | (apply sat_cond_f; exact rfl; (exact rfl)) | (apply sat_ret) | (apply sat_exit))) | (apply pe_norm) | (apply pe_exit) | (apply pb_same))
        (change fnPost _ _ _ _ _ _ _; apply fn_endN; (exact .inr rfl); (focus (repeat' (first | (apply rr_tmp; (focus ((conv => lhs; whnf); try exact rfl)); (exact Wk.same _)) | exact rr_nil))); exact rfl; (exact rfl); exact Nat.le_refl _; (focus (repeat' (first | exact trivial | refine ⟨?_, ?_⟩))); exact hso)
        exact ⟨rfl, rfl⟩
      | false =>
        repeat' (first | (apply og_ops; (first | (apply og_guard; (first | (apply ops_guard_t; exact (rfl : _ = some _); exact (rfl : _ = PV.bool _); (exact rfl)) | (apply ops_guard_f'; exact (rfl : _ = some _); exact (rfl : _ = PV.bool _); (first | exact rfl | assumption); exact ltn rfl))) | (apply og_move; (apply op_move (tt := tt); (focus ((conv => lhs; whnf); try exact rfl)); exact rfl)) | (apply og_assign; (apply op_assign (tt := tt); (focus ((conv => lhs; whnf); try exact rfl)); exact rfl)) | (apply og_bin; (apply op_bin true tab; (focus ((conv => lhs; whnf; arg 1; whnf; arg 2; whnf); try exact rfl)); (exact trivial); exact rfl)) | (apply og_pick; (apply op_pick (tt := tt); exact (rfl : _ = PV.bool _); (first | refine .inl ⟨rfl, ?_⟩ | refine .inr ⟨by assumption, ?_⟩); (focus ((conv => lhs; whnf); try exact rfl)); exact ltn rfl)) | (apply og_callb; (apply op_len tab; (focus ((conv => lhs; whnf; arg 1; whnf; arg 2; whnf); try exact rfl)); (exact trivial); exact rfl)) | (apply og_un; (apply op_un (tt := tt) true; (focus ((conv => lhs; whnf; arg 1; whnf; arg 2; whnf); try exact rfl)); (exact trivial); exact rfl)) | (apply ops_nil))) | (apply og_sat; (first | (apply sat_seq) | (apply sat_region) | (apply sat_cond_f; exact rfl; (exact rfl)) | (apply sat_ret) | (apply sat_exit))) | (apply pe_norm) | (apply pe_exit) | (apply pb_same))
        (change fnPost _ _ _ _ _ _ _; apply fn_endN; (exact .inr rfl); (focus (repeat' (first | (apply rr_tmp; (focus ((conv => lhs; whnf); try exact rfl)); (exact Wk.same _)) | exact rr_nil))); exact rfl; (exact rfl); exact Nat.le_refl _; (focus (repeat' (first | exact trivial | refine ⟨?_, ?_⟩))); exact hso)
        exact ⟨rfl, rfl⟩

abbrev shCm : Shp := .struct [.int .i64, .int .i64, .int .i64, .str, .int .i64, .int .i64, .int .i64, .int .u32, .int .i64, .int .i64, .int .i64, .sl 2 shPl]
theorem dec_cm (c : List PV) (h : HasC shCm c) : ∃ v : Cm, mkV shCm c = cm v ∧ c = (cm v).cells := by
  obtain ⟨_, _, rfl, ⟨a, _, rfl⟩, _, _, rfl, ⟨b, _, rfl⟩, _, _, rfl, ⟨d, _, rfl⟩, _, _, rfl, ⟨e, _, rfl⟩, _, _, rfl, ⟨f, _, rfl⟩, _, _, rfl, ⟨g, _, rfl⟩, _, _, rfl, ⟨i, _, rfl⟩, _, _, rfl, ⟨j, _, rfl⟩, _, _, rfl, ⟨k, _, rfl⟩, _, _, rfl, ⟨m, _, rfl⟩, _, _, rfl, ⟨n, _, rfl⟩, _, _, rfl, ⟨es, rfl, _, he⟩, rfl⟩ := h
  obtain ⟨l, rfl⟩ := dec_row plc dec_pl he
  exact ⟨⟨a, b, d, e, f, g, i, j, k, m, n, l⟩, rfl, rfl⟩
theorem wt_min {α : Type} {f : α → PV} {m : Nat} (h : ∀ x, m ≤ (f x).wt) : ∀ l : List α, m * l.length ≤ wtAll (l.map f)
  | [] => Nat.zero_le _
  | y :: r => by
    have h1 := wt_min h r
    have h2 := h y
    simp only [List.map_cons, List.length_cons, wtAll, Nat.mul_add, Nat.mul_one]; omega
theorem okB_of {x : Ix} (h : (ix x).wt ≤ 1048576) : OkB 400000 x := by
  simp only [ix, PV.wt, wtAll] at h
  have h1 := wt_min (f := vl) (m := 3) (fun v => by simp only [vl, PV.wt, wtAll]; omega) x.vols
  have h2 := wt_min (f := nm) (m := 3) (fun v => by simp only [nm, PV.wt, wtAll]; omega) x.names
  have h3 := wt_min (f := ss) (m := 3) (fun v => by simp only [ss, PV.wt, wtAll]; omega) x.last
  refine ⟨by omega, by omega, by omega, fun v hv => ?_, fun v hv => ?_⟩
  · have w1 := wt_mem (List.mem_map_of_mem (f := vl) hv)
    have w2 := wt_plc v.parts
    have w3 : wtAll (v.parts.map plc) ≤ (vl v).wt := by simp only [vl, PV.wt, wtAll]; omega
    omega
  · have w1 := wt_mem (List.mem_map_of_mem (f := vl) hv)
    have w2 := wt_plc v.places
    have w3 : wtAll (v.places.map plc) ≤ (vl v).wt := by simp only [vl, PV.wt, wtAll]; omega
    omega

theorem planOldUpto_law (c0 : List PV) (h0 : HasC shIx c0) (c1 : List PV) (h1 : HasC shPl c1) (c2 : List PV) (h2 : HasC (.sl 12 shCm) c2)
    (hw : (mkV shIx c0).wt + (mkV shPl c1).wt + (mkV (.sl 12 shCm) c2).wt ≤ 1048576) :
    SatCall Try.prog 5 [mkV shIx c0, mkV shPl c1, mkV (.sl 12 shCm) c2] [] fun r _ => r = .bool true := by
  obtain ⟨x, e, _⟩ := dec_ix c0 h0
  obtain ⟨k, e2, _⟩ := dec_pl c1 h1
  obtain ⟨es, rfl, _, he⟩ := h2
  obtain ⟨l, rfl⟩ := dec_row cm dec_cm he
  rw [e, e2] at hw ⊢
  have hwl : wtAll (l.map cm) ≤ 1048576 := by simp only [mkV, PV.wt] at hw; omega
  refine (planOld_sat x k l (okB_of (by omega)) (by have := wt_len (l.map cm); rw [List.length_map] at this; omega) (fun c hc => ?_) []).mono fun _ _ h => h.1
  have w1 := wt_mem (List.mem_map_of_mem (f := cm) hc)
  have w2 := wt_plc c.places
  have w3 : wtAll (c.places.map plc) + c.name.size ≤ (cm c).wt := by simp only [cm, PV.wt, wtAll]; omega
  omega

end Go.Proofs.Ytenmnbjhebmpjaa.Pv
