/- The document's answer: to pair. -/
import Derived.Test.YtenmnbjhebmpjaaPlnI
namespace Go.Proofs.Ytenmnbjhebmpjaa.Pv
open Go
set_option linter.unusedVariables false
set_option linter.unusedSimpArgs false
set_option maxRecDepth 100000

theorem getD_drop {α : Type} [Inhabited α] (xs : List α) (n j : Nat) : (xs.drop n).getD j default = xs.getD (n + j) default := by
  simp only [List.getD_eq_getElem?_getD, List.getElem?_drop]
def matB (x : Ix) (i : Nat) (w : Vl) : Bool := w.phase == 3 && w.home != (x.vols.getD i default).home
theorem mate_hit {x : Ix} {i k : Nat} (h1 : i + 1 ≤ k) (h2 : k < x.vols.length) (hno : ∀ j, i + 1 ≤ j → j < k → matB x i (x.vols.getD j default) = false) (hp : matB x i (x.vols.getD k default) = true) : mateI x i = ((k - (i + 1) : Nat) : Int) ∧ mateV x i = x.vols.getD k default := by
  have e : mateI x i = ((k - (i + 1) : Nat) : Int) := by
    refine idx_hit (xs := x.vols.drop (i + 1)) (p := matB x i) (by rw [List.length_drop]; omega) (fun j hj => ?_) ?_
    · rw [getD_drop]; exact hno _ (by omega) (by omega)
    · rw [getD_drop, show i + 1 + (k - (i + 1)) = k by omega]; exact hp
  refine ⟨e, ?_⟩
  unfold mateV
  rw [e]
  congr 1
  omega
theorem mate_none {x : Ix} {i : Nat} (hno : ∀ j, i + 1 ≤ j → j < x.vols.length → matB x i (x.vols.getD j default) = false) : mateI x i = -1 :=
  idx_none (xs := x.vols.drop (i + 1)) (p := matB x i) fun j hj => by
    rw [List.length_drop] at hj
    rw [getD_drop]; exact hno _ (by omega) (by omega)

/-- The action, and whether it may. -/
def refPairP (x : Ix) (l : List Iv) (nodes : Int) (i : Nat) : Ac × Bool :=
  if mateI x i < 0 then (default, false) else (⟨3, (x.vols.getD i default).id, 0, (mateV x i).id, (pairS x l nodes i).1, (0, 0)⟩, (pairS x l nodes i).2 == 0)

theorem refPair_sat (x : Ix) (l : List Iv) (nodes : Int) (i : Nat) (hi : i < x.vols.length) (hx : OkIx x) (hiv : okIv l) (σ : Sto) : SatCall Try.prog 36 [ix x, .sl .sh 4 (l.map iv), .int .i64 nodes, .int .i64 i] σ fun r σ' => r = .tup [ac (refPairP x l nodes i).1, .bool (refPairP x l nodes i).2] ∧ σ' = σ := by
  refine sat_fn tab Try.func36 rfl (Nat.le_of_ble_eq_true rfl) (by decide) fun hso => sat_base ?_
  have hl := hx.vols
  repeat' (first | (apply og_ops; (first | (apply og_move; (apply op_move (tt := tt); (focus ((conv => lhs; whnf); try exact rfl)); exact rfl)) | (apply og_assign; (apply op_assign (tt := tt); (focus ((conv => lhs; whnf); try exact rfl)); exact rfl)) | (apply og_bin; (apply op_bin true tab; (focus ((conv => lhs; whnf; arg 1; whnf; arg 2; whnf); try exact rfl)); (simp only [InR]; omega); exact rfl)) | (apply og_load; (first | (apply op_lk; (apply lk_loadX tab; exact rfl; exact rfl; exact rfl; (focus ((conv => lhs; whnf; arg 1; whnf; arg 2; whnf); try skip)); (exact trivial)); (intro c h; cases h); exact rfl) | (apply op_load tab; (focus ((conv => lhs; whnf; arg 1; whnf; arg 2; whnf); try skip)); (exact Nat.le_of_ble_eq_true rfl); exact rfl))) | (apply og_indexAddr; (refine op_indexMap (tI := 3) _ tab rfl (by (focus ((conv => lhs; whnf); try exact rfl))) (by (focus ((conv => lhs; whnf); try exact rfl))) rfl (by (omega)) (by (omega)) (by (focus ((conv => lhs; whnf); try exact rfl))) (ltn rfl) ?_)) | (apply og_fieldAddr; (apply op_lk; (apply lk_fieldAddrB tab; exact rfl; (focus ((conv => lhs; whnf); try exact rfl)); exact rfl; (exact (rfl : _ = 0))); (intro c h; cases h); exact rfl)) | (apply og_store; (apply op_storeX tab; exact rfl; exact rfl; exact rfl; exact rfl; exact rfl; exact rfl; exact rfl; exact rfl)) | (apply og_alloc; (apply op_allocX tab; exact rfl; exact rfl; (first | exact (rfl : _ = 1) | exact (rfl : _ = 2)); exact rfl)) | (apply og_box; (apply op_boxX (tt := tt); (focus ((conv => lhs; whnf); try exact rfl)); exact rfl; (exact (rfl : _ = 0)); exact rfl)) | (apply ops_nil))) | (apply og_sat; (first | (apply sat_seq) | (apply sat_region) | (apply sat_block))) | (apply pe_norm))
  refine sat_loopD (fun k : Nat => [(1, .sl .sh 4 (l.map iv)), (2, .int .i64 nodes), (4, .ptr (σ.length + 0) 0), (8, .ptr (σ.length + 1) 0), (10, .ptr (σ.length + 2) 0), (11, .int .i64 k)]) (fun _ => σ ++ [.cells (ix x).cells, .cells acZ, .cells (vl (x.vols.getD i default)).cells]) (fun k => i + 1 ≤ k ∧ k ≤ x.vols.length ∧ ∀ j, i + 1 ≤ j → j < k → matB x i (x.vols.getD j default) = false) (fun k => x.vols.length - k) (i + 1) ⟨by omega, by omega, fun j h1 h2 => by omega⟩ ?_ rfl ?_
  · (repeat' (first | exact trivial | exact Wk.same _ | refine ⟨?_, ?_⟩))
  rintro k ⟨k1, k2, hno⟩
  rcases Nat.lt_or_ge k x.vols.length with hlt | hge
  · have c1 : decide ((k : Int) < (x.vols.length : Int)) = true := decide_eq_true (by omega)
    have step : matB x i (x.vols.getD k default) = false → ∀ j, i + 1 ≤ j → j < k + 1 → matB x i (x.vols.getD j default) = false := fun e j h1 h2 => by
      by_cases e' : j = k
      · subst e'; exact e
      · exact hno j h1 (by omega)
    by_cases hp : (x.vols.getD k default).phase = 3
    · have d1 : ((x.vols.getD k default).phase != 3) = false := by simpa using hp
      by_cases hh : (x.vols.getD k default).home = (x.vols.getD i default).home
      · have d2 : ((x.vols.getD k default).home == (x.vols.getD i default).home) = true := by simpa using hh
        have e : matB x i (x.vols.getD k default) = false := by unfold matB; rw [show ((x.vols.getD k default).home != (x.vols.getD i default).home) = false by simpa using hh, Bool.and_false]
        repeat' (first | (apply og_ops; (first | (apply og_guard; (apply ops_guard_t; exact (rfl : _ = some _); exact (rfl : _ = PV.bool _); (assumption))) | (apply og_move; (apply op_move (tt := tt); (focus ((conv => lhs; whnf); try exact rfl)); exact rfl)) | (apply og_assign; (apply op_assign (tt := tt); (focus ((conv => lhs; whnf); try exact rfl)); exact rfl)) | (apply og_bin; (apply op_bin true tab; (focus ((conv => lhs; whnf; arg 1; whnf; arg 2; whnf); try exact rfl)); (first | exact trivial | (simp only [InR]; omega)); exact rfl)) | (apply og_pick; (apply op_pick (tt := tt); exact (rfl : _ = PV.bool _); (refine .inr ⟨by assumption, ?_⟩); (focus ((conv => lhs; whnf); try exact rfl)); exact ltn rfl)) | (apply og_load; (first | (apply op_lk; (apply lk_loadX tab; exact rfl; exact rfl; exact rfl; (focus ((conv => lhs; whnf; arg 1; whnf; arg 2; whnf); try skip)); (exact trivial)); (intro c h; cases h); exact rfl) | (apply op_load tab; (focus ((conv => lhs; whnf; arg 1; whnf; arg 2; whnf); try skip)); (exact Nat.le_of_ble_eq_true rfl); exact rfl))) | (apply og_callb; (apply op_len tab; (focus ((conv => lhs; whnf; arg 1; whnf; arg 2; whnf); try exact rfl)); (exact trivial); exact rfl)) | (apply og_indexAddr; (refine op_indexMap (tI := 3) _ tab rfl (by (focus ((conv => lhs; whnf); try exact rfl))) (by (focus ((conv => lhs; whnf); try exact rfl))) rfl (by (omega)) (by (omega)) (by (focus ((conv => lhs; whnf); try exact rfl))) (ltn rfl) ?_)) | (apply og_fieldAddr; (apply op_lk; (apply lk_fieldAddrB tab; exact rfl; (focus ((conv => lhs; whnf); try exact rfl)); exact rfl; (first | exact (rfl : _ = 0) | exact (rfl : _ = 1) | exact (rfl : _ = 4))); (intro c h; cases h); exact rfl)) | (apply og_store; (apply op_storeX tab; exact rfl; exact rfl; exact rfl; exact rfl; exact rfl; exact rfl; exact rfl; exact rfl)) | (apply og_alloc; (apply op_allocX tab; exact rfl; exact rfl; (exact (rfl : _ = 3)); exact rfl)) | (apply ops_nil))) | (apply og_sat; (first | (apply sat_seq) | (apply sat_region) | (apply sat_cond_t; exact rfl; (first | assumption | (simp only [List.length_map]; assumption))) | (apply sat_skip) | (apply sat_block) | (apply sat_exit))) | (apply pe_norm) | (apply pe_exit) | (apply pb_same))
        refine ⟨k + 1, ⟨by omega, by omega, step e⟩, by omega, ?_, ?_⟩
        · (repeat' (first | exact trivial | exact Wk.same _ | refine ⟨?_, ?_⟩))
        · exact loopD_end 3 rfl (by simp) (stoOK_app hso (by simp [Ent.lt, ltAll, PV.lt, PV.cells, ix, acZ, vl])) (envL_lt (by simp [PV.lt, ix, acZ, vl]))
      · have d2 : ((x.vols.getD k default).home == (x.vols.getD i default).home) = false := by simpa using hh
        have e : matB x i (x.vols.getD k default) = true := by unfold matB; rw [show ((x.vols.getD k default).home != (x.vols.getD i default).home) = true by simpa using hh, hp]; rfl
        obtain ⟨m1, m2⟩ := mate_hit k1 hlt hno e
        have ht := refThird_sat (x.vols.getD i default).home (x.vols.getD k default).home
        have hlv := refLive_sat l (pairR x i) nodes hiv.1
        have hsp := refSpread_sat (x.vols.getD i default).id (pairR x i) 14 nodes (liveP l (pairR x i) nodes)
        have er : (thirdP (x.vols.getD i default).home (x.vols.getD k default).home).1 = pairR x i := by rw [pairR, m2]
        have e2 : refPairP x l nodes i = (⟨3, (x.vols.getD i default).id, 0, (x.vols.getD k default).id, (pairS x l nodes i).1, (0, 0)⟩, (pairS x l nodes i).2 == 0) := by rw [refPairP, if_neg (by rw [m1]; omega), m2]
        rw [e2]
        generalize thirdP (x.vols.getD i default).home (x.vols.getD k default).home = tp at *
        obtain ⟨tp1, tp2⟩ := tp
        simp only at er
        subst er
        repeat' (first | (apply og_ops; (first | (apply og_guard; (apply ops_guard_t; exact (rfl : _ = some _); exact (rfl : _ = PV.bool _); (assumption))) | (apply og_move; (apply op_move (tt := tt); (focus ((conv => lhs; whnf); try exact rfl)); exact rfl)) | (apply og_assign; (apply op_assign (tt := tt); (focus ((conv => lhs; whnf); try exact rfl)); exact rfl)) | (apply og_callv; (refine op_callP (tt := tt) cal59 (ht _) rfl rfl rfl rfl rfl ?_)) | (apply og_bin; (apply op_bin true tab; (focus ((conv => lhs; whnf; arg 1; whnf; arg 2; whnf); try exact rfl)); (exact trivial); exact rfl)) | (apply og_pick; (apply op_pick (tt := tt); exact (rfl : _ = PV.bool _); (refine .inr ⟨by assumption, ?_⟩); (focus ((conv => lhs; whnf); try exact rfl)); exact ltn rfl)) | (apply og_load; (first | (apply op_lk; (apply lk_loadX tab; exact rfl; exact rfl; exact rfl; (focus ((conv => lhs; whnf; arg 1; whnf; arg 2; whnf); try skip)); (exact trivial)); (intro c h; cases h); exact rfl) | (apply op_load tab; (focus ((conv => lhs; whnf; arg 1; whnf; arg 2; whnf); try skip)); (exact Nat.le_of_ble_eq_true rfl); exact rfl))) | (apply og_callb; (apply op_len tab; (focus ((conv => lhs; whnf; arg 1; whnf; arg 2; whnf); try exact rfl)); (exact trivial); exact rfl)) | (apply og_indexAddr; (refine op_indexMap (tI := 3) _ tab rfl (by (focus ((conv => lhs; whnf); try exact rfl))) (by (focus ((conv => lhs; whnf); try exact rfl))) rfl (by (omega)) (by (omega)) (by (focus ((conv => lhs; whnf); try exact rfl))) (ltn rfl) ?_)) | (apply og_fieldAddr; (apply op_lk; (apply lk_fieldAddrB tab; exact rfl; (focus ((conv => lhs; whnf); try exact rfl)); exact rfl; (first | exact (rfl : _ = 0) | exact (rfl : _ = 1) | exact (rfl : _ = 4))); (intro c h; cases h); exact rfl)) | (apply og_extract; (apply op_extract (tt := tt); (focus ((conv => lhs; whnf; arg 1; whnf; arg 2; whnf); try exact rfl)); (exact trivial); exact rfl)) | (apply og_store; (apply op_storeX tab; exact rfl; exact rfl; exact rfl; exact rfl; exact rfl; exact rfl; exact rfl; exact rfl)) | (apply og_build; (apply op_lk; (apply lk_build tab; exact rfl; (focus ((conv => lhs; whnf; arg 1; whnf; arg 2; whnf); try skip))); (intro c h; cases h); exact rfl)) | (apply og_alloc; (apply op_allocX tab; exact rfl; exact rfl; (exact (rfl : _ = 3)); exact rfl)) | (apply ops_nil))) | (apply og_sat; (first | (apply sat_seq) | (apply sat_region) | (apply sat_cond_t; exact rfl; (simp only [List.length_map]; assumption)) | (apply sat_cond_f; exact rfl; (assumption)) | (apply sat_skip) | (apply sat_ret) | (apply sat_block) | (apply sat_drawC (k := 13); exact mixed; decide +kernel; decide +kernel))) | (apply pe_norm) | (apply pe_ret) | (apply pb_ret) | (apply og_dd; (first | (refine dd_cons (step_call (tt := tt) cal21 (hlv _) rfl rfl rfl rfl rfl) ?_) | (refine dd_cons (step_call (tt := tt) cal35 (hsp _) rfl rfl rfl rfl rfl) ?_) | (apply dd_lk; (first | (apply lg_move; (apply lk_move (tt := tt); (focus ((conv => lhs; whnf); try exact rfl)))) | (apply lg_assign; (apply lk_assign (tt := tt); (focus ((conv => lhs; whnf); try exact rfl)))) | (apply lg_fieldAddr; (apply lk_fieldAddrB tab; exact rfl; (focus ((conv => lhs; whnf); try exact rfl)); exact rfl; (exact (rfl : _ = 0)))) | (apply lg_extract; (apply lk_extract (tt := tt); (focus ((conv => lhs; whnf; arg 1; whnf; arg 2; whnf); try exact rfl)); (exact trivial))) | (apply lg_load; (apply lk_loadX tab; exact rfl; exact rfl; exact rfl; (focus ((conv => lhs; whnf; arg 1; whnf; arg 2; whnf); try skip)); (exact trivial)))); exact rfl; exact rfl) | (apply dd_nil))))
        (change fnPost _ _ _ _ _ _ _; apply fn_endN; (exact .inr rfl); (focus (repeat' (first | (apply rr_tmp; (focus ((conv => lhs; whnf); try exact rfl)); (exact Wk.same _)) | (apply rr_cell; exact rfl; exact rfl; exact rfl; (focus ((conv => lhs; whnf; arg 1; whnf; arg 2; whnf); try skip)); (exact Nat.le_of_ble_eq_true rfl)) | exact rr_nil))); exact rfl; (exact rfl); exact Nat.le_refl _; (focus (repeat' (first | exact trivial | refine ⟨?_, ?_⟩))); exact hso)
        exact ⟨rfl, rfl⟩
    · have d1 : ((x.vols.getD k default).phase != 3) = true := by simpa using hp
      have e : matB x i (x.vols.getD k default) = false := by unfold matB; rw [show ((x.vols.getD k default).phase == 3) = false by simpa using hp]; rfl
      repeat' (first | (apply og_ops; (first | (apply og_guard; (apply ops_guard_f'; exact (rfl : _ = some _); exact (rfl : _ = PV.bool _); (assumption); exact ltn rfl)) | (apply og_move; (apply op_move (tt := tt); (focus ((conv => lhs; whnf); try exact rfl)); exact rfl)) | (apply og_assign; (apply op_assign (tt := tt); (focus ((conv => lhs; whnf); try exact rfl)); exact rfl)) | (apply og_bin; (apply op_bin true tab; (focus ((conv => lhs; whnf; arg 1; whnf; arg 2; whnf); try exact rfl)); (first | exact trivial | (simp only [InR]; omega)); exact rfl)) | (apply og_pick; (apply op_pick (tt := tt); exact (rfl : _ = PV.bool _); (refine .inl ⟨by assumption, ?_⟩); (focus ((conv => lhs; whnf); try exact rfl)); exact ltn rfl)) | (apply og_load; (first | (apply op_lk; (apply lk_loadX tab; exact rfl; exact rfl; exact rfl; (focus ((conv => lhs; whnf; arg 1; whnf; arg 2; whnf); try skip)); (exact trivial)); (intro c h; cases h); exact rfl) | (apply op_load tab; (focus ((conv => lhs; whnf; arg 1; whnf; arg 2; whnf); try skip)); (exact Nat.le_of_ble_eq_true rfl); exact rfl))) | (apply og_callb; (apply op_len tab; (focus ((conv => lhs; whnf; arg 1; whnf; arg 2; whnf); try exact rfl)); (exact trivial); exact rfl)) | (apply og_indexAddr; (refine op_indexMap (tI := 3) _ tab rfl (by (focus ((conv => lhs; whnf); try exact rfl))) (by (focus ((conv => lhs; whnf); try exact rfl))) rfl (by (omega)) (by (omega)) (by (focus ((conv => lhs; whnf); try exact rfl))) (ltn rfl) ?_)) | (apply og_fieldAddr; (apply op_lk; (apply lk_fieldAddrB tab; exact rfl; (focus ((conv => lhs; whnf); try exact rfl)); exact rfl; (first | exact (rfl : _ = 0) | exact (rfl : _ = 4))); (intro c h; cases h); exact rfl)) | (apply og_store; (apply op_storeX tab; exact rfl; exact rfl; exact rfl; exact rfl; exact rfl; exact rfl; exact rfl; exact rfl)) | (apply og_alloc; (apply op_allocX tab; exact rfl; exact rfl; (exact (rfl : _ = 3)); exact rfl)) | (apply ops_nil))) | (apply og_sat; (first | (apply sat_seq) | (apply sat_region) | (apply sat_cond_t; exact rfl; (first | exact rfl | (simp only [List.length_map]; assumption))) | (apply sat_skip) | (apply sat_block) | (apply sat_exit))) | (apply pe_norm) | (apply pe_exit) | (apply pb_same))
      refine ⟨k + 1, ⟨by omega, by omega, step e⟩, by omega, ?_, ?_⟩
      · (repeat' (first | exact trivial | exact Wk.same _ | refine ⟨?_, ?_⟩))
      · exact loopD_end 3 rfl (by simp) (stoOK_app hso (by simp [Ent.lt, ltAll, PV.lt, PV.cells, ix, acZ, vl])) (envL_lt (by simp [PV.lt, ix, acZ, vl]))
  · have c1 : decide ((k : Int) < (x.vols.length : Int)) = false := decide_eq_false (by omega)
    have m1 : mateI x i = -1 := mate_none fun j h1 h2 => hno j h1 (by omega)
    have e2 : refPairP x l nodes i = (default, false) := by rw [refPairP, if_pos (by rw [m1]; omega)]
    rw [e2]
    repeat' (first | (apply og_ops; (first | (apply og_move; (apply op_move (tt := tt); (focus ((conv => lhs; whnf); try exact rfl)); exact rfl)) | (apply og_assign; (apply op_assign (tt := tt); (focus ((conv => lhs; whnf); try exact rfl)); exact rfl)) | (apply og_bin; (apply op_bin true tab; (focus ((conv => lhs; whnf; arg 1; whnf; arg 2; whnf); try exact rfl)); (exact trivial); exact rfl)) | (apply og_load; (apply op_lk; (apply lk_loadX tab; exact rfl; exact rfl; exact rfl; (focus ((conv => lhs; whnf; arg 1; whnf; arg 2; whnf); try skip)); (exact trivial)); (intro c h; cases h); exact rfl)) | (apply og_callb; (apply op_len tab; (focus ((conv => lhs; whnf; arg 1; whnf; arg 2; whnf); try exact rfl)); (exact trivial); exact rfl)) | (apply og_fieldAddr; (apply op_lk; (apply lk_fieldAddrB tab; exact rfl; (focus ((conv => lhs; whnf); try exact rfl)); exact rfl; (exact (rfl : _ = 0))); (intro c h; cases h); exact rfl)) | (apply og_store; (apply op_storeX tab; exact rfl; exact rfl; exact rfl; exact rfl; exact rfl; exact rfl; exact rfl; exact rfl)) | (apply og_build; (apply op_lk; (apply lk_build tab; exact rfl; (focus ((conv => lhs; whnf; arg 1; whnf; arg 2; whnf); try skip))); (intro c h; cases h); exact rfl)) | (apply ops_nil))) | (apply og_sat; (first | (apply sat_seq) | (apply sat_region) | (apply sat_cond_f; exact rfl; (simp only [List.length_map]; assumption)) | (apply sat_ret) | (apply sat_exit))) | (apply pe_norm) | (apply pe_exit) | (apply pb_same))
    (change fnPost _ _ _ _ _ _ _; apply fn_endN; (exact .inr rfl); (focus (repeat' (first | (apply rr_tmp; (focus ((conv => lhs; whnf); try exact rfl)); (exact Wk.same _)) | (apply rr_cell; exact rfl; exact rfl; exact rfl; (focus ((conv => lhs; whnf; arg 1; whnf; arg 2; whnf); try skip)); (exact Nat.le_of_ble_eq_true rfl)) | exact rr_nil))); exact rfl; (exact rfl); exact Nat.le_refl _; (focus (repeat' (first | exact trivial | refine ⟨?_, ?_⟩))); exact hso)
    exact ⟨rfl, rfl⟩

theorem pairI_no {x : Ix} {l : List Iv} {nodes : Int} {i : Nat} (hp : (x.vols.getD i default).phase = 3) (h : (refPairP x l nodes i).2 = false) : pairI x l nodes i = none := by
  refine if_neg fun h1 => ?_
  rw [refPairP, if_neg (by omega)] at h
  simp [h1.2.2] at h
theorem pairI_yes {x : Ix} {l : List Iv} {nodes : Int} {i : Nat} (hp : (x.vols.getD i default).phase = 3) (h : (refPairP x l nodes i).2 = true) : pairI x l nodes i = some (refPairP x l nodes i).1 := by
  unfold refPairP at h ⊢
  split at h
  · cases h
  · rename_i h1
    rw [if_neg h1]
    exact if_pos ⟨hp, by omega, by simpa using h⟩

/-- Are two actions the same? -/
theorem acSame_sat (a b : Ac) (hl : a.to.length ≤ 1000000) (σ : Sto) : SatCall Try.prog 10 [ac a, ac b] σ fun r σ' => r = .bool (decide (a = b)) ∧ σ' = σ := by
  refine sat_fn tab Try.func10 rfl (Nat.le_of_ble_eq_true rfl) (by decide) fun hso => sat_base ?_
  have hp := places_sat a.to b.to hl
  have key : decide (a = b) = (decide (a.to = b.to) && a.kind == b.kind && a.vol == b.vol && a.idx == b.idx && a.mate == b.mate && decide (a.key = b.key)) := by
    rw [Bool.eq_iff_iff]
    cases a; cases b
    simp only [decide_eq_true_eq, Ac.mk.injEq, Bool.and_eq_true, beq_iff_eq]
    exact ⟨fun ⟨h1, h2, h3, h4, h5, h6⟩ => ⟨⟨⟨⟨⟨h5, h1⟩, h2⟩, h3⟩, h4⟩, h6⟩, fun ⟨⟨⟨⟨⟨h5, h1⟩, h2⟩, h3⟩, h4⟩, h6⟩ => ⟨h1, h2, h3, h4, h5, h6⟩⟩
  rw [key]
  generalize decide (a.to = b.to) = q at *
  repeat' (first | (apply og_ops; (first | (apply og_guard; (first | (apply ops_guard_t; exact (rfl : _ = some _); exact (rfl : _ = PV.bool _); (assumption)) | (apply ops_guard_f'; exact (rfl : _ = some _); exact (rfl : _ = PV.bool _); (first | exact rfl | assumption); exact ltn rfl) | (apply ops_gsplit; exact (rfl : _ = some _); exact (rfl : _ = PV.bool _); all_goals intro hb))) | (apply og_move; (apply op_move (tt := tt); (focus ((conv => lhs; whnf); try exact rfl)); exact rfl)) | (apply og_assign; (apply op_assign (tt := tt); (focus ((conv => lhs; whnf); try exact rfl)); exact rfl)) | (apply og_callv; (refine op_callP (tt := tt) cal17 (hp _) rfl rfl rfl rfl rfl ?_)) | (apply og_bin; (first | (apply op_bin true tab; (focus ((conv => lhs; whnf; arg 1; whnf; arg 2; whnf); try exact rfl)); (exact trivial); exact rfl) | (apply op_lk; (apply lk_eql tab eqok; exact rfl; exact rfl; (focus ((conv => lhs; whnf); try exact rfl)); (focus ((conv => lhs; whnf); try exact rfl)); exact rfl; exact rfl); (intro c h; cases h); exact rfl))) | (apply og_pick; (apply op_pick (tt := tt); exact (rfl : _ = PV.bool _); (first | refine .inr ⟨rfl, ?_⟩ | refine .inl ⟨by assumption, ?_⟩ | refine .inr ⟨by assumption, ?_⟩); (focus ((conv => lhs; whnf); try exact rfl)); exact ltn rfl)) | (apply og_load; (apply op_lk; (apply lk_loadX tab; exact rfl; exact rfl; exact rfl; (focus ((conv => lhs; whnf; arg 1; whnf; arg 2; whnf); try skip)); (first | exact trivial | exact Nat.le_of_ble_eq_true rfl)); (intro c h; cases h); exact rfl)) | (apply og_fieldAddr; (apply op_lk; (apply lk_fieldAddrB tab; exact rfl; (focus ((conv => lhs; whnf); try exact rfl)); exact rfl; (first | exact (rfl : _ = 0) | exact (rfl : _ = 1) | exact (rfl : _ = 2) | exact (rfl : _ = 3) | exact (rfl : _ = 4) | exact (rfl : _ = 5))); (intro c h; cases h); exact rfl)) | (apply og_box; (apply op_boxX (tt := tt); (focus ((conv => lhs; whnf); try exact rfl)); exact rfl; (first | exact (rfl : _ = 0) | exact (rfl : _ = 1)); exact rfl)) | (apply ops_nil))) | (apply og_sat; (first | (apply sat_seq) | (apply sat_region) | (apply sat_ret))) | (apply pe_norm))
  all_goals (change fnPost _ _ _ _ _ _ _; apply fn_endN; (exact .inr rfl); (focus (repeat' (first | (apply rr_tmp; (focus ((conv => lhs; whnf); try exact rfl)); (exact Wk.same _)) | exact rr_nil))); exact rfl; (exact rfl); exact Nat.le_refl _; (focus (repeat' (first | exact trivial | refine ⟨?_, ?_⟩))); exact hso)
  all_goals refine ⟨?_, rfl⟩
  all_goals simp [resOf, ← eqPl, *]

end Go.Proofs.Ytenmnbjhebmpjaa.Pv
