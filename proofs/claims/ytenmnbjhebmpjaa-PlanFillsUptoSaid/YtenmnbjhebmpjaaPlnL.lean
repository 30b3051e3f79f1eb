/- What the laws of chapter plan show; PlanRests, PlanHomes. -/
import Derived.Test.YtenmnbjhebmpjaaPlnI
namespace Go.Proofs.Ytenmnbjhebmpjaa.Pv
open Go
set_option linter.unusedVariables false
set_option linter.unusedSimpArgs false
set_option maxRecDepth 100000

theorem weakArgs {P : Program} {f : FuncId} {ps ps' : List PV} {σ : Sto} {R : PV → Sto → Prop} (hl : ps.length = ps'.length) (hw : ∀ t, Wk (look (argEnv ps') t) (look (argEnv ps) t)) (h : SatCall P f ps' σ R) : SatCall P f ps σ R :=
  fun F G w vs hl' hs => h F G w vs (hl'.trans hl) (hs.weaken hw)

set_option maxHeartbeats 4000000 in
theorem shown_sat (σ : Sto) : SatCall Try.prog 9 [] σ fun x σ' => x = .bool true ∧ σ' = σ := by
  refine sat_fn tab Try.func9 rfl (Nat.le_of_ble_eq_true rfl) (by decide) fun hso => sat_base ?_
  have h1 := planNext_sat ⟨[⟨1, 1, 2, 140, 1, [], [], 0, 0⟩], [], []⟩ [] 14 ⟨by decide, fun v hv => by simp at hv; subst hv; decide⟩ ⟨by decide, fun y hy => by simp at hy⟩
  rw [show planP ⟨[⟨1, 1, 2, 140, 1, [], [], 0, 0⟩], [], []⟩ [] 14 = ⟨4, 1, 0, 0, [], (0, 0)⟩ by decide +kernel] at h1
  have h1' : ∀ σ, SatCall Try.prog 11 [ix ⟨[⟨1, 1, 2, 140, 1, [], [], 0, 0⟩], [], []⟩, .sl .ow 4 [], .int .i64 14] σ fun r σ' => r = ac ⟨4, 1, 0, 0, [], (0, 0)⟩ ∧ σ' = σ := fun σ =>
    weakArgs (ps' := [ix ⟨[⟨1, 1, 2, 140, 1, [], [], 0, 0⟩], [], []⟩, .sl .sh 4 (List.map iv []), .int .i64 14]) rfl (fun t => by
      rcases t with _ | _ | t
      · exact Wk.same _
      · exact Wk.sh
      · exact Wk.same _) (h1 σ)
  have h2 := planNext_sat ⟨[⟨1, 0, 0, 0, 4, [], [], 0, 0⟩], [], []⟩ [((1, 0), true, [(1, 100)])] 14 ⟨by decide, fun v hv => by simp at hv; subst hv; decide⟩ ⟨by decide, fun y hy => by simp at hy; subst hy; decide⟩
  rw [show planP ⟨[⟨1, 0, 0, 0, 4, [], [], 0, 0⟩], [], []⟩ [((1, 0), true, [(1, 100)])] 14 = ⟨5, 0, 0, 0, [(1, 0)], (1, 100)⟩ by decide +kernel] at h2
  repeat' (first | (apply og_ops; (first | (apply og_assign; (apply op_assign (tt := tt); (focus ((conv => lhs; whnf); try exact rfl)); exact rfl)) | (apply og_load; (apply op_lk; (apply lk_loadX tab; exact rfl; exact rfl; exact rfl; (focus ((conv => lhs; whnf; arg 1; whnf; arg 2; whnf); try skip)); (exact Nat.le_of_ble_eq_true rfl)); (intro c h; cases h); exact rfl)) | (apply og_store; (apply op_storeX tab; exact rfl; exact rfl; exact rfl; exact rfl; exact rfl; exact rfl; exact rfl; exact rfl)) | (apply og_build; (apply op_lk; (apply lk_build tab; exact rfl; (focus ((conv => lhs; whnf; arg 1; whnf; arg 2; whnf); try skip))); (intro c h; cases h); exact rfl)) | (apply og_buildSlice; (apply op_buildSliceX .ow tab; exact rfl; (focus ((repeat (apply opvs_cons; (focus ((conv => lhs; whnf); try exact rfl)))); exact opvs_nil)); exact rfl; exact rfl; exact rfl; exact rfl; exact rfl; exact rfl)) | (apply og_alloc; (apply op_allocX tab; exact rfl; exact rfl; (exact (rfl : _ = 0)); exact rfl)) | (apply ops_nil))) | (apply og_sat; (first | (apply sat_seq) | (apply sat_region))) | (apply pe_norm))
  refine op_callP (tt := tt) cal11 (h1' _) rfl rfl rfl rfl rfl ?_
  repeat' (first | (apply og_ops; (first | (apply og_load; (apply op_lk; (apply lk_loadX tab; exact rfl; exact rfl; exact rfl; (focus ((conv => lhs; whnf; arg 1; whnf; arg 2; whnf); try skip)); (exact Nat.le_of_ble_eq_true rfl)); (intro c h; cases h); exact rfl)) | (apply og_fieldAddr; (apply op_lk; (apply lk_fieldAddrB tab; exact rfl; (focus ((conv => lhs; whnf); try exact rfl)); exact rfl; (exact (rfl : _ = 0))); (intro c h; cases h); exact rfl)) | (apply og_store; (first | (apply op_storeTX tab; exact rfl; exact rfl; exact rfl; exact rfl; (focus ((conv => lhs; whnf); try exact rfl)); exact rfl; exact rfl; (intro h; cases h)) | (apply op_storeX tab; exact rfl; exact rfl; exact rfl; exact rfl; exact rfl; exact rfl; exact rfl; exact rfl))) | (apply og_build; (apply op_lk; (apply lk_build tab; exact rfl; (focus ((conv => lhs; whnf; arg 1; whnf; arg 2; whnf); try skip))); (intro c h; cases h); exact rfl)) | (apply og_buildSlice; (apply op_buildSliceX .ow tab; exact rfl; (focus ((repeat (apply opvs_cons; (focus ((conv => lhs; whnf); try exact rfl)))); exact opvs_nil)); exact rfl; exact rfl; exact rfl; exact rfl; exact rfl; exact rfl)) | (apply og_alloc; (apply op_allocX tab; exact rfl; exact rfl; (first | exact (rfl : _ = 1) | exact (rfl : _ = 2)); exact rfl)) | (apply ops_nil))) | (apply og_sat; (first | (apply sat_seq) | (apply sat_region))) | (apply pe_norm))
  refine op_callP (tt := tt) cal11 (h2 _) rfl rfl rfl rfl rfl ?_
  repeat' (first | (apply og_ops; (first | (apply og_guard; (apply ops_guard_t; exact (rfl : _ = some _); exact (rfl : _ = PV.bool _); (exact rfl))) | (apply og_assign; (apply op_assign (tt := tt); (focus ((conv => lhs; whnf); try exact rfl)); exact rfl)) | (apply og_bin; (apply op_lk; (apply lk_eql tab eqok; exact rfl; exact rfl; (focus ((conv => lhs; whnf); try exact rfl)); (focus ((conv => lhs; whnf); try exact rfl)); exact rfl; exact rfl); (intro c h; cases h); exact rfl)) | (apply og_pick; (apply op_pick (tt := tt); exact (rfl : _ = PV.bool _); (refine .inl ⟨rfl, ?_⟩); (focus ((conv => lhs; whnf); try exact rfl)); exact ltn rfl)) | (apply og_store; (apply op_storeX tab; exact rfl; exact rfl; exact rfl; exact rfl; exact rfl; exact rfl; exact rfl; exact rfl)) | (apply og_alloc; (apply op_allocX tab; exact rfl; exact rfl; (exact (rfl : _ = 3)); exact rfl)) | (apply ops_nil))) | (apply og_sat; (first | (apply sat_seq) | (apply sat_ret) | (apply sat_drawC (k := 31); exact mixed; decide +kernel; decide +kernel))) | (apply pe_norm) | (apply og_dd; (first | (apply dd_lk; (first | (apply lg_move; (apply lk_move (tt := tt); (focus ((conv => lhs; whnf); try exact rfl)))) | (apply lg_bin; (apply lk_bin true tab; (focus ((conv => lhs; whnf; arg 1; whnf; arg 2; whnf); try exact rfl)); (exact trivial))) | (apply lg_fieldAddr; (apply lk_fieldAddrB tab; exact rfl; (focus ((conv => lhs; whnf); try exact rfl)); exact rfl; (exact (rfl : _ = 0)))) | (apply lg_load; (apply lk_loadX tab; exact rfl; exact rfl; exact rfl; (focus ((conv => lhs; whnf; arg 1; whnf; arg 2; whnf); try skip)); (exact trivial))) | (apply lg_pick; (apply lk_pick (tt := tt); exact (rfl : _ = PV.bool _); (refine .inl ⟨rfl, ?_⟩); (focus ((conv => lhs; whnf); try exact rfl))))); exact rfl; exact rfl) | (apply dd_lkg; exact (rfl : _ = some _); exact (rfl : _ = PV.bool _); (exact rfl); (first | (apply lg_indexAddr; exact lk_indexMap (tI := 3) _ tab rfl (by (focus ((conv => lhs; whnf); try exact rfl))) (by (focus ((conv => lhs; whnf); try exact rfl))) rfl (by (omega)) (by (simp only [List.length_map, List.length_cons, List.length_append, List.length_nil]; omega)) (by (focus ((conv => lhs; whnf); try exact rfl)))) | (apply lg_bin; (first | (apply lk_bin true tab; (focus ((conv => lhs; whnf; arg 1; whnf; arg 2; whnf); try exact rfl)); (exact trivial)) | (apply lk_eql tab eqok; exact rfl; exact rfl; (focus ((conv => lhs; whnf); try exact rfl)); (focus ((conv => lhs; whnf); try exact rfl)); exact rfl; exact rfl))) | (apply lg_fieldAddr; (apply lk_fieldAddrB tab; exact rfl; (focus ((conv => lhs; whnf); try exact rfl)); exact rfl; (first | exact (rfl : _ = 0) | exact (rfl : _ = 1) | exact (rfl : _ = 4) | exact (rfl : _ = 5)))) | (apply lg_load; (first | (apply lk_loadX tab; exact rfl; exact rfl; exact rfl; (focus ((conv => lhs; whnf; arg 1; whnf; arg 2; whnf); try skip)); (first | exact trivial | exact Nat.le_of_ble_eq_true rfl)) | (apply lk_load tab; (focus ((conv => lhs; whnf; arg 1; whnf; arg 2; whnf); try skip)); (exact Nat.le_of_ble_eq_true rfl)))) | (apply lg_callb; (apply lk_len tab; (focus ((conv => lhs; whnf; arg 1; whnf; arg 2; whnf); try exact rfl)); (exact trivial))) | (apply lg_build; (apply lk_build tab; exact rfl; (focus ((conv => lhs; whnf; arg 1; whnf; arg 2; whnf); try skip))))); exact rfl; exact rfl) | (apply dd_nil))))
  (change fnPost _ _ _ _ _ _ _; apply fn_endN; (exact .inr rfl); (focus (repeat' (first | (apply rr_tmp; (focus ((conv => lhs; whnf); try exact rfl)); (exact Wk.same _)) | exact rr_nil))); exact rfl; (exact rfl); exact Nat.le_refl _; (focus (repeat' (first | exact trivial | refine ⟨?_, ?_⟩))); exact hso)
  exact ⟨rfl, rfl⟩

theorem firstA_some {n : Nat} {f : Nat → Option Ac} {a : Ac} (h : firstA n f = some a) : ∃ i, i < n ∧ f i = some a := by
  obtain ⟨i, hi, e⟩ := List.exists_of_findSome?_eq_some h
  exact ⟨i, List.mem_range.1 hi, e⟩
theorem firstA_no {n : Nat} {f : Nat → Option Ac} (h : firstA n f = none) : ∀ i, i < n → f i = none := fun i hi => List.findSome?_eq_none_iff.1 h i (List.mem_range.2 hi)

theorem plan0 {x : Ix} {l : List Iv} {nodes : Int} (h : (planP x l nodes).kind = 0) : lockP x = none ∧ dropP x l = none := by
  unfold planP at h
  cases h0 : repP x l nodes with
  | some a =>
    rw [h0] at h
    obtain ⟨i, _, e⟩ := firstA_some h0
    unfold repV at e
    split at e
    · cases e
    · split at e
      · cases e; cases h
      · split at e
        · cases e; cases h
        · cases e
  | none =>
    rw [h0] at h
    cases h1 : encP x l nodes with
    | some a =>
      rw [h1] at h
      obtain ⟨i, _, e⟩ := firstA_some h1
      unfold encV at e
      split at e
      · cases e; cases h
      · cases e
    | none =>
      rw [h1] at h
      cases h2 : pairP x l nodes with
      | some a =>
        rw [h2] at h
        obtain ⟨i, _, e⟩ := firstA_some h2
        unfold pairI at e
        split at e
        · cases e; cases h
        · cases e
      | none =>
        rw [h2] at h
        cases h3 : lockP x with
        | some a =>
          rw [h3] at h
          obtain ⟨i, _, e⟩ := firstA_some h3
          unfold lockV at e
          split at e
          · cases e; cases h
          · cases e
        | none =>
          rw [h3] at h
          cases h4 : dropP x l with
          | some a =>
            rw [h4] at h
            obtain ⟨i, _, e⟩ := firstA_some h4
            obtain ⟨k, _, e⟩ := firstA_some e
            unfold dropK at e
            split at e
            · cases e; cases h
            · cases e
          | none => exact ⟨rfl, rfl⟩

theorem planRests_sat (x : Ix) (l : List Iv) (nodes : Int) (hx : OkIx x) (hiv : okIv l) (σ : Sto) : SatCall Try.prog 4 [ix x, .sl .sh 4 (l.map iv), .int .i64 nodes] σ fun r σ' => r = .bool true ∧ σ' = σ := by
  refine sat_fn tab Try.func4 rfl (Nat.le_of_ble_eq_true rfl) (by decide) fun hso => sat_base ?_
  have hl := hx.vols
  have hl2 := hiv.1
  have hp := planNext_sat x l nodes hx hiv
  by_cases hz : (planP x l nodes).kind = 0
  · have c0 : ((planP x l nodes).kind != 0) = false := by simpa using hz
    obtain ⟨z1, z2⟩ := plan0 hz
    repeat' (first | (apply og_ops; (first | (apply og_move; (apply op_move (tt := tt); (focus ((conv => lhs; whnf); try exact rfl)); exact rfl)) | (apply og_assign; (apply op_assign (tt := tt); (focus ((conv => lhs; whnf); try exact rfl)); exact rfl)) | (apply og_callv; (first | (refine op_callP (tt := tt) cal9 (shown_sat _) rfl rfl rfl rfl rfl ?_) | (refine op_callP (tt := tt) cal11 (hp _) rfl rfl rfl rfl rfl ?_))) | (apply og_bin; (apply op_bin true tab; (focus ((conv => lhs; whnf; arg 1; whnf; arg 2; whnf); try exact rfl)); (exact trivial); exact rfl)) | (apply og_load; (apply op_lk; (apply lk_loadX tab; exact rfl; exact rfl; exact rfl; (focus ((conv => lhs; whnf; arg 1; whnf; arg 2; whnf); try skip)); (first | exact trivial | exact Nat.le_of_ble_eq_true rfl)); (intro c h; cases h); exact rfl)) | (apply og_fieldAddr; (apply op_lk; (apply lk_fieldAddrB tab; exact rfl; (focus ((conv => lhs; whnf); try exact rfl)); exact rfl; (exact (rfl : _ = 0))); (intro c h; cases h); exact rfl)) | (apply og_store; (apply op_storeX tab; exact rfl; exact rfl; exact rfl; exact rfl; exact rfl; exact rfl; exact rfl; exact rfl)) | (apply og_alloc; (apply op_allocX tab; exact rfl; exact rfl; (exact (rfl : _ = 1)); exact rfl)) | (apply og_box; (apply op_boxX (tt := tt); (focus ((conv => lhs; whnf); try exact rfl)); exact rfl; (exact (rfl : _ = 0)); exact rfl)) | (apply ops_nil))) | (apply og_sat; (first | (apply sat_seq) | (apply sat_region) | (apply sat_cond_f; exact rfl; (assumption)) | (apply sat_skip) | (apply sat_block))) | (apply pe_norm))
    refine sat_loopW (fun i : Nat => [(1, .sl .sh 4 (l.map iv)), (3, .ptr (σ.length + 0) 0), (7, .bool true), (9, .int .i64 i)]) (fun _ => _) (fun i => i ≤ x.vols.length) (fun i => x.vols.length - i) 0 (Nat.zero_le _) ?_ rfl ?_
    · (repeat' (first | exact trivial | exact Wk.same _ | refine ⟨?_, ?_⟩))
    intro i hi
    rcases Nat.lt_or_ge i x.vols.length with hlt | hge
    · have c1 : decide ((i : Int) < (x.vols.length : Int)) = true := decide_eq_true (by omega)
      have z := firstA_no z1 i hlt
      have hv : ¬ ((x.vols.getD i default).phase = 1 ∧ 128 < (x.vols.getD i default).used) := fun h => by rw [lockV, if_pos h] at z; cases z
      by_cases d1 : (x.vols.getD i default).phase = 1
      · have d1' : ((x.vols.getD i default).phase == 1) = true := by simpa using d1
        have d2 : decide (128 < (x.vols.getD i default).used) = false := decide_eq_false fun h => hv ⟨d1, h⟩
        repeat' (first | (apply og_ops; (first | (apply og_guard; (apply ops_guard_t; exact (rfl : _ = some _); exact (rfl : _ = PV.bool _); (assumption))) | (apply og_move; (apply op_move (tt := tt); (focus ((conv => lhs; whnf); try exact rfl)); exact rfl)) | (apply og_assign; (apply op_assign (tt := tt); (focus ((conv => lhs; whnf); try exact rfl)); exact rfl)) | (apply og_bin; (apply op_bin true tab; (focus ((conv => lhs; whnf; arg 1; whnf; arg 2; whnf); try exact rfl)); (first | exact trivial | (simp only [InR]; omega)); exact rfl)) | (apply og_pick; (apply op_pick (tt := tt); exact (rfl : _ = PV.bool _); (refine .inl ⟨by assumption, ?_⟩); (focus ((conv => lhs; whnf); try exact rfl)); exact ltn rfl)) | (apply og_load; (first | (apply op_lk; (apply lk_loadX tab; exact rfl; exact rfl; exact rfl; (focus ((conv => lhs; whnf; arg 1; whnf; arg 2; whnf); try skip)); (exact trivial)); (intro c h; cases h); exact rfl) | (apply op_load tab; (focus ((conv => lhs; whnf; arg 1; whnf; arg 2; whnf); try skip)); (exact trivial); exact rfl))) | (apply og_callb; (apply op_len tab; (focus ((conv => lhs; whnf; arg 1; whnf; arg 2; whnf); try exact rfl)); (exact trivial); exact rfl)) | (apply og_indexAddr; (refine op_indexMap (tI := 3) _ tab rfl (by (focus ((conv => lhs; whnf); try exact rfl))) (by (focus ((conv => lhs; whnf); try exact rfl))) rfl (by (omega)) (by (omega)) (by (focus ((conv => lhs; whnf); try exact rfl))) (ltn rfl) ?_)) | (apply og_fieldAddr; (first | (apply op_lk; (apply lk_fieldAddrB tab; exact rfl; (focus ((conv => lhs; whnf); try exact rfl)); exact rfl; (exact (rfl : _ = 0))); (intro c h; cases h); exact rfl) | (apply op_lk; (apply lk_fieldAddrC tab; exact rfl; (focus ((conv => lhs; whnf); try exact rfl)); exact rfl; exact rfl; (focus ((conv => lhs; whnf); try exact rfl))); (intro c h; cases h); exact rfl))) | (apply ops_nil))) | (apply og_sat; (first | (apply sat_seq) | (apply sat_region) | (apply sat_cond_t; exact rfl; (simp only [List.length_map]; assumption)) | (apply sat_cond_f; exact rfl; (assumption)) | (apply sat_skip) | (apply sat_block))) | (apply pe_norm) | (apply pb_norm))
        refine ⟨i + 1, by omega, by omega, ?_, rfl⟩
        (repeat' (first | exact trivial | exact Wk.same _ | refine ⟨?_, ?_⟩))
      · have d1' : ((x.vols.getD i default).phase == 1) = false := by simpa using d1
        repeat' (first | (apply og_ops; (first | (apply og_guard; (apply ops_guard_f'; exact (rfl : _ = some _); exact (rfl : _ = PV.bool _); (assumption); exact ltn rfl)) | (apply og_move; (apply op_move (tt := tt); (focus ((conv => lhs; whnf); try exact rfl)); exact rfl)) | (apply og_assign; (apply op_assign (tt := tt); (focus ((conv => lhs; whnf); try exact rfl)); exact rfl)) | (apply og_bin; (apply op_bin true tab; (focus ((conv => lhs; whnf; arg 1; whnf; arg 2; whnf); try exact rfl)); (first | exact trivial | (simp only [InR]; omega)); exact rfl)) | (apply og_pick; (apply op_pick (tt := tt); exact (rfl : _ = PV.bool _); (refine .inr ⟨by assumption, ?_⟩); (focus ((conv => lhs; whnf); try exact rfl)); exact ltn rfl)) | (apply og_load; (first | (apply op_lk; (apply lk_loadX tab; exact rfl; exact rfl; exact rfl; (focus ((conv => lhs; whnf; arg 1; whnf; arg 2; whnf); try skip)); (exact trivial)); (intro c h; cases h); exact rfl) | (apply op_load tab; (focus ((conv => lhs; whnf; arg 1; whnf; arg 2; whnf); try skip)); (exact trivial); exact rfl))) | (apply og_callb; (apply op_len tab; (focus ((conv => lhs; whnf; arg 1; whnf; arg 2; whnf); try exact rfl)); (exact trivial); exact rfl)) | (apply og_indexAddr; (refine op_indexMap (tI := 3) _ tab rfl (by (focus ((conv => lhs; whnf); try exact rfl))) (by (focus ((conv => lhs; whnf); try exact rfl))) rfl (by (omega)) (by (omega)) (by (focus ((conv => lhs; whnf); try exact rfl))) (ltn rfl) ?_)) | (apply og_fieldAddr; (first | (apply op_lk; (apply lk_fieldAddrB tab; exact rfl; (focus ((conv => lhs; whnf); try exact rfl)); exact rfl; (exact (rfl : _ = 0))); (intro c h; cases h); exact rfl) | (apply op_lk; (apply lk_fieldAddrC tab; exact rfl; (focus ((conv => lhs; whnf); try exact rfl)); exact rfl; exact rfl; (focus ((conv => lhs; whnf); try exact rfl))); (intro c h; cases h); exact rfl))) | (apply ops_nil))) | (apply og_sat; (first | (apply sat_seq) | (apply sat_region) | (apply sat_cond_t; exact rfl; (simp only [List.length_map]; assumption)) | (apply sat_cond_f; exact rfl; (exact rfl)) | (apply sat_skip) | (apply sat_block))) | (apply pe_norm) | (apply pb_norm))
        refine ⟨i + 1, by omega, by omega, ?_, rfl⟩
        (repeat' (first | exact trivial | exact Wk.same _ | refine ⟨?_, ?_⟩))
    have c1 : decide ((i : Int) < (x.vols.length : Int)) = false := decide_eq_false (by omega)
    clear hge hi
    repeat' (first | (apply og_ops; (first | (apply og_move; (apply op_move (tt := tt); (focus ((conv => lhs; whnf); try exact rfl)); exact rfl)) | (apply og_assign; (apply op_assign (tt := tt); (focus ((conv => lhs; whnf); try exact rfl)); exact rfl)) | (apply og_bin; (apply op_bin true tab; (focus ((conv => lhs; whnf; arg 1; whnf; arg 2; whnf); try exact rfl)); (exact trivial); exact rfl)) | (apply og_load; (apply op_lk; (apply lk_loadX tab; exact rfl; exact rfl; exact rfl; (focus ((conv => lhs; whnf; arg 1; whnf; arg 2; whnf); try skip)); (exact trivial)); (intro c h; cases h); exact rfl)) | (apply og_callb; (apply op_len tab; (focus ((conv => lhs; whnf; arg 1; whnf; arg 2; whnf); try exact rfl)); (exact trivial); exact rfl)) | (apply og_fieldAddr; (apply op_lk; (apply lk_fieldAddrB tab; exact rfl; (focus ((conv => lhs; whnf); try exact rfl)); exact rfl; (exact (rfl : _ = 0))); (intro c h; cases h); exact rfl)) | (apply ops_nil))) | (apply og_sat; (first | (apply sat_seq) | (apply sat_region) | (apply sat_cond_f; exact rfl; (simp only [List.length_map]; assumption)) | (apply sat_block) | (apply sat_exit))) | (apply pe_norm) | (apply pe_exit) | (apply pb_same))
    refine sat_loopW (fun i : Nat => [(1, .sl .sh 4 (l.map iv)), (3, .ptr (σ.length + 0) 0), (7, .bool true), (10, .int .i64 i)]) (fun _ => _) (fun i => i ≤ l.length) (fun i => l.length - i) 0 (Nat.zero_le _) ?_ rfl ?_
    · (repeat' (first | exact trivial | exact Wk.same _ | refine ⟨?_, ?_⟩))
    intro i hi
    rcases Nat.lt_or_ge i l.length with hlt | hge
    · have c1 : decide ((i : Int) < (l.length : Int)) = true := decide_eq_true (by omega)
      have hkl := hiv.2 _ (getD_memL hlt)
      have z := firstA_no z2 i hlt
      repeat' (first | (apply og_ops; (first | (apply og_move; (apply op_move (tt := tt); (focus ((conv => lhs; whnf); try exact rfl)); exact rfl)) | (apply og_assign; (apply op_assign (tt := tt); (focus ((conv => lhs; whnf); try exact rfl)); exact rfl)) | (apply og_bin; (apply op_bin true tab; (focus ((conv => lhs; whnf; arg 1; whnf; arg 2; whnf); try exact rfl)); (exact trivial); exact rfl)) | (apply og_callb; (apply op_len tab; (focus ((conv => lhs; whnf; arg 1; whnf; arg 2; whnf); try exact rfl)); (exact trivial); exact rfl)) | (apply ops_nil))) | (apply og_sat; (first | (apply sat_seq) | (apply sat_region) | (apply sat_cond_t; exact rfl; (simp only [List.length_map]; assumption)) | (apply sat_skip) | (apply sat_block))) | (apply pe_norm))
      refine sat_loopW (fun k : Nat => [(1, .sl .sh 4 (l.map iv)), (3, .ptr (σ.length + 0) 0), (7, .bool true), (10, .int .i64 i), (11, .int .i64 k)]) (fun _ => _) (fun k => k ≤ (l.getD i default).2.2.length) (fun k => (l.getD i default).2.2.length - k) 0 (Nat.zero_le _) ?_ rfl ?_
      · (repeat' (first | exact trivial | exact Wk.same _ | refine ⟨?_, ?_⟩))
      intro k hk
      by_cases hlt2 : k < (l.getD i default).2.2.length
      · have c2 : decide ((k : Int) < ((l.getD i default).2.2.length : Int)) = true := decide_eq_true (by omega)
        have c2m : decide ((k : Int) < (((l.getD i default).2.2.map plc).length : Int)) = true := by rw [List.length_map]; exact c2
        cases hd1 : (l.getD i default).2.1 with
        | true =>
          have ho := old_sat x ((l.getD i default).2.2.getD k default) hl
          have hd2 : oldP x ((l.getD i default).2.2.getD k default) = false := by
            cases h : oldP x ((l.getD i default).2.2.getD k default) with
            | false => rfl
            | true =>
              have zz := firstA_no z k hlt2
              rw [dropK, if_pos ⟨hd1, h⟩] at zz; cases zz
          rw [hd2] at ho
          repeat' (first | (apply og_ops; (first | (apply og_guard; (apply ops_guard_t; exact (rfl : _ = some _); exact (rfl : _ = PV.bool _); (assumption))) | (apply og_move; (apply op_move (tt := tt); (focus ((conv => lhs; whnf); try exact rfl)); exact rfl)) | (apply og_assign; (apply op_assign (tt := tt); (focus ((conv => lhs; whnf); try exact rfl)); exact rfl)) | (apply og_callv; (refine op_callP (tt := tt) cal13 (ho _) rfl rfl rfl rfl rfl ?_)) | (apply og_bin; (apply op_bin true tab; (focus ((conv => lhs; whnf; arg 1; whnf; arg 2; whnf); try exact rfl)); (first | exact trivial | (simp only [InR]; omega)); exact rfl)) | (apply og_pick; (apply op_pick (tt := tt); exact (rfl : _ = PV.bool _); (refine .inl ⟨by assumption, ?_⟩); (focus ((conv => lhs; whnf); try exact rfl)); exact ltn rfl)) | (apply og_load; (apply op_load tab; (focus ((conv => lhs; whnf; arg 1; whnf; arg 2; whnf); try skip)); (exact trivial); exact rfl)) | (apply og_callb; (apply op_len tab; (focus ((conv => lhs; whnf; arg 1; whnf; arg 2; whnf); try exact rfl)); (exact trivial); exact rfl)) | (apply og_indexAddr; (refine op_indexMap (tI := 3) _ tab rfl (by (focus ((conv => lhs; whnf); try exact rfl))) (by (focus ((conv => lhs; whnf); try exact rfl))) rfl (by (omega)) (by (omega)) (by (focus ((conv => lhs; whnf); try exact rfl))) (ltn rfl) ?_)) | (apply og_fieldAddr; (apply op_lk; (apply lk_fieldAddrC tab; exact rfl; (focus ((conv => lhs; whnf); try exact rfl)); exact rfl; exact rfl; (focus ((conv => lhs; whnf); try exact rfl))); (intro c h; cases h); exact rfl)) | (apply ops_nil))) | (apply og_sat; (first | (apply sat_seq) | (apply sat_region) | (apply sat_cond_t; exact rfl; (assumption)) | (apply sat_cond_f; exact rfl; (exact rfl)) | (apply sat_skip) | (apply sat_block) | (apply sat_drawC (k := 9); exact mixed; decide +kernel; decide +kernel))) | (apply pe_norm) | (apply pb_norm) | (apply og_dd; (first | (apply dd_lk; (first | (apply lg_indexAddr; exact lk_indexMap (tI := 3) _ tab rfl (by (focus ((conv => lhs; whnf); try exact rfl))) (by (focus ((conv => lhs; whnf); try exact rfl))) rfl (by (omega)) (by (first | omega | (simp [InR] at *; omega))) (by (focus ((conv => lhs; whnf); try exact rfl)))) | (apply lg_move; (apply lk_move (tt := tt); (focus ((conv => lhs; whnf); try exact rfl)))) | (apply lg_fieldAddr; (apply lk_fieldAddrC tab; exact rfl; (focus ((conv => lhs; whnf); try exact rfl)); exact rfl; exact rfl; (focus ((conv => lhs; whnf); try exact rfl)))) | (apply lg_load; (first | (apply lk_loadX tab; exact rfl; exact rfl; exact rfl; (focus ((conv => lhs; whnf; arg 1; whnf; arg 2; whnf); try skip)); (exact Nat.le_of_ble_eq_true rfl)) | (apply lk_load tab; (focus ((conv => lhs; whnf; arg 1; whnf; arg 2; whnf); try skip)); (first | exact trivial | exact Nat.le_of_ble_eq_true rfl))))); exact rfl; exact rfl) | (apply dd_nil))))
          refine ⟨k + 1, by omega, by omega, ?_, rfl⟩
          (repeat' (first | exact trivial | exact Wk.same _ | refine ⟨?_, ?_⟩))
        | false =>
          repeat' (first | (apply og_ops; (first | (apply og_guard; (apply ops_guard_t; exact (rfl : _ = some _); exact (rfl : _ = PV.bool _); (assumption))) | (apply og_move; (apply op_move (tt := tt); (focus ((conv => lhs; whnf); try exact rfl)); exact rfl)) | (apply og_assign; (apply op_assign (tt := tt); (focus ((conv => lhs; whnf); try exact rfl)); exact rfl)) | (apply og_bin; (apply op_bin true tab; (focus ((conv => lhs; whnf; arg 1; whnf; arg 2; whnf); try exact rfl)); (first | exact trivial | (simp only [InR]; omega)); exact rfl)) | (apply og_pick; (apply op_pick (tt := tt); exact (rfl : _ = PV.bool _); (refine .inl ⟨by assumption, ?_⟩); (focus ((conv => lhs; whnf); try exact rfl)); exact ltn rfl)) | (apply og_load; (apply op_load tab; (focus ((conv => lhs; whnf; arg 1; whnf; arg 2; whnf); try skip)); (exact trivial); exact rfl)) | (apply og_callb; (apply op_len tab; (focus ((conv => lhs; whnf; arg 1; whnf; arg 2; whnf); try exact rfl)); (exact trivial); exact rfl)) | (apply og_indexAddr; (refine op_indexMap (tI := 3) _ tab rfl (by (focus ((conv => lhs; whnf); try exact rfl))) (by (focus ((conv => lhs; whnf); try exact rfl))) rfl (by (omega)) (by (omega)) (by (focus ((conv => lhs; whnf); try exact rfl))) (ltn rfl) ?_)) | (apply og_fieldAddr; (apply op_lk; (apply lk_fieldAddrC tab; exact rfl; (focus ((conv => lhs; whnf); try exact rfl)); exact rfl; exact rfl; (focus ((conv => lhs; whnf); try exact rfl))); (intro c h; cases h); exact rfl)) | (apply ops_nil))) | (apply og_sat; (first | (apply sat_seq) | (apply sat_region) | (apply sat_cond_f; exact rfl; (assumption)) | (apply sat_exit))) | (apply pe_norm) | (apply pb_norm) | (apply pe_exit) | (apply pb_same))
          refine ⟨i + 1, by omega, by omega, ?_, rfl⟩
          (repeat' (first | exact trivial | exact Wk.same _ | refine ⟨?_, ?_⟩))
      · have c2 : decide ((k : Int) < ((l.getD i default).2.2.length : Int)) = false := decide_eq_false (by omega)
        have c2m : decide ((k : Int) < (((l.getD i default).2.2.map plc).length : Int)) = false := by rw [List.length_map]; exact c2
        repeat' (first | (apply og_ops; (first | (apply og_guard; (apply ops_guard_f'; exact (rfl : _ = some _); exact (rfl : _ = PV.bool _); (assumption); exact ltn rfl)) | (apply og_move; (apply op_move (tt := tt); (focus ((conv => lhs; whnf); try exact rfl)); exact rfl)) | (apply og_assign; (apply op_assign (tt := tt); (focus ((conv => lhs; whnf); try exact rfl)); exact rfl)) | (apply og_bin; (apply op_bin true tab; (focus ((conv => lhs; whnf; arg 1; whnf; arg 2; whnf); try exact rfl)); (first | exact trivial | (simp only [InR]; omega)); exact rfl)) | (apply og_pick; (apply op_pick (tt := tt); exact (rfl : _ = PV.bool _); (refine .inr ⟨by assumption, ?_⟩); (focus ((conv => lhs; whnf); try exact rfl)); exact ltn rfl)) | (apply og_load; (apply op_load tab; (focus ((conv => lhs; whnf; arg 1; whnf; arg 2; whnf); try skip)); (exact trivial); exact rfl)) | (apply og_callb; (apply op_len tab; (focus ((conv => lhs; whnf; arg 1; whnf; arg 2; whnf); try exact rfl)); (exact trivial); exact rfl)) | (apply og_indexAddr; (refine op_indexMap (tI := 3) _ tab rfl (by (focus ((conv => lhs; whnf); try exact rfl))) (by (focus ((conv => lhs; whnf); try exact rfl))) rfl (by (omega)) (by (omega)) (by (focus ((conv => lhs; whnf); try exact rfl))) (ltn rfl) ?_)) | (apply og_fieldAddr; (apply op_lk; (apply lk_fieldAddrC tab; exact rfl; (focus ((conv => lhs; whnf); try exact rfl)); exact rfl; exact rfl; (focus ((conv => lhs; whnf); try exact rfl))); (intro c h; cases h); exact rfl)) | (apply ops_nil))) | (apply og_sat; (first | (apply sat_seq) | (apply sat_region) | (apply sat_cond_f; exact rfl; (exact rfl)) | (apply sat_exit))) | (apply pe_norm) | (apply pb_norm) | (apply pe_exit) | (apply pb_same))
        refine ⟨i + 1, by omega, by omega, ?_, rfl⟩
        (repeat' (first | exact trivial | exact Wk.same _ | refine ⟨?_, ?_⟩))
    have c1 : decide ((i : Int) < (l.length : Int)) = false := decide_eq_false (by omega)
    repeat' (first | (apply og_ops; (first | (apply og_move; (apply op_move (tt := tt); (focus ((conv => lhs; whnf); try exact rfl)); exact rfl)) | (apply og_assign; (apply op_assign (tt := tt); (focus ((conv => lhs; whnf); try exact rfl)); exact rfl)) | (apply og_bin; (apply op_bin true tab; (focus ((conv => lhs; whnf; arg 1; whnf; arg 2; whnf); try exact rfl)); (exact trivial); exact rfl)) | (apply og_callb; (apply op_len tab; (focus ((conv => lhs; whnf; arg 1; whnf; arg 2; whnf); try exact rfl)); (exact trivial); exact rfl)) | (apply ops_nil))) | (apply og_sat; (first | (apply sat_seq) | (apply sat_region) | (apply sat_cond_f; exact rfl; (simp only [List.length_map]; assumption)) | (apply sat_ret) | (apply sat_exit))) | (apply pe_norm) | (apply pe_exit) | (apply pb_same))
    (change fnPost _ _ _ _ _ _ _; apply fn_endN; (exact .inr rfl); (focus (repeat' (first | (apply rr_tmp; (focus ((conv => lhs; whnf); try exact rfl)); (exact Wk.same _)) | exact rr_nil))); exact rfl; (exact rfl); exact Nat.le_refl _; (focus (repeat' (first | exact trivial | refine ⟨?_, ?_⟩))); exact hso)
    exact ⟨rfl, rfl⟩
  · have c0 : ((planP x l nodes).kind != 0) = true := by simpa using hz
    repeat' (first | (apply og_ops; (first | (apply og_move; (apply op_move (tt := tt); (focus ((conv => lhs; whnf); try exact rfl)); exact rfl)) | (apply og_assign; (apply op_assign (tt := tt); (focus ((conv => lhs; whnf); try exact rfl)); exact rfl)) | (apply og_callv; (first | (refine op_callP (tt := tt) cal9 (shown_sat _) rfl rfl rfl rfl rfl ?_) | (refine op_callP (tt := tt) cal11 (hp _) rfl rfl rfl rfl rfl ?_))) | (apply og_bin; (apply op_bin true tab; (focus ((conv => lhs; whnf; arg 1; whnf; arg 2; whnf); try exact rfl)); (exact trivial); exact rfl)) | (apply og_load; (apply op_lk; (apply lk_loadX tab; exact rfl; exact rfl; exact rfl; (focus ((conv => lhs; whnf; arg 1; whnf; arg 2; whnf); try skip)); (first | exact trivial | exact Nat.le_of_ble_eq_true rfl)); (intro c h; cases h); exact rfl)) | (apply og_fieldAddr; (apply op_lk; (apply lk_fieldAddrB tab; exact rfl; (focus ((conv => lhs; whnf); try exact rfl)); exact rfl; (exact (rfl : _ = 0))); (intro c h; cases h); exact rfl)) | (apply og_store; (apply op_storeX tab; exact rfl; exact rfl; exact rfl; exact rfl; exact rfl; exact rfl; exact rfl; exact rfl)) | (apply og_alloc; (apply op_allocX tab; exact rfl; exact rfl; (exact (rfl : _ = 1)); exact rfl)) | (apply og_box; (apply op_boxX (tt := tt); (focus ((conv => lhs; whnf); try exact rfl)); exact rfl; (exact (rfl : _ = 0)); exact rfl)) | (apply ops_nil))) | (apply og_sat; (first | (apply sat_seq) | (apply sat_region) | (apply sat_cond_t; exact rfl; (assumption)) | (apply sat_ret))) | (apply pe_norm) | (apply pe_ret))
    (change fnPost _ _ _ _ _ _ _; apply fn_endN; (exact .inr rfl); (focus (repeat' (first | (apply rr_tmp; (focus ((conv => lhs; whnf); try exact rfl)); (exact Wk.same _)) | exact rr_nil))); exact rfl; (exact rfl); exact Nat.le_refl _; (focus (repeat' (first | exact trivial | refine ⟨?_, ?_⟩))); exact hso)
    exact ⟨rfl, rfl⟩

end Go.Proofs.Ytenmnbjhebmpjaa.Pv
