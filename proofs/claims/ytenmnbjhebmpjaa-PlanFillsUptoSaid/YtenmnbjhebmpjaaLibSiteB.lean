/- Package site's answer: rings, rows compared; what is spread. -/
import Derived.Test.YtenmnbjhebmpjaaLibSiteA
namespace Go.Proofs.Ytenmnbjhebmpjaa.Pv
open Go
set_option linter.unusedVariables false
set_option linter.unusedSimpArgs false
set_option maxRecDepth 100000

theorem rot_eq (v N : Nat) (h : v < N) : (List.range N).map (fun i => (v + i) % N) = List.range' v (N - v) ++ List.range v := by
  refine List.ext_getElem (by simp; omega) fun i h1 h2 => ?_
  simp only [List.length_map, List.length_range] at h1
  rw [List.getElem_map, List.getElem_range]
  by_cases hi : i < N - v
  · rw [List.getElem_append_left (by simpa using hi)]
    simp only [List.getElem_range', Nat.one_mul]
    exact Nat.mod_eq_of_lt (by omega)
  · rw [List.getElem_append_right (by simpa using hi)]
    simp only [List.getElem_range, List.length_range']
    rw [show v + i = (i - (N - v)) + N by omega, Nat.add_mod_right]
    exact Nat.mod_eq_of_lt (by omega)

theorem rot_perm (v N : Nat) (h : v < N) : ((List.range N).map (fun i => (v + i) % N)).Perm (List.range N) := by
  rw [rot_eq v N h]
  refine List.perm_append_comm.trans ?_
  have : List.range v ++ List.range' v (N - v) = List.range N := by
    rw [List.range_eq_range', List.range_eq_range']
    have := List.range'_append (s := 0) (m := v) (n := N - v) (step := 1)
    simp only [Nat.zero_add, Nat.one_mul] at this
    rw [this]; congr 1; omega
  rw [this]

theorem step_nat {vol nodes : Int} (h0 : 0 ≤ vol) (h1 : 1 ≤ nodes) (i : Nat) : ringStep vol nodes i = (((vol.tmod nodes).toNat + i) % nodes.toNat : Nat) := by
  have hm : 0 ≤ vol.tmod nodes := Int.tmod_nonneg _ h0
  obtain ⟨m, hm'⟩ := Int.eq_ofNat_of_zero_le hm
  obtain ⟨N, rfl⟩ := Int.eq_ofNat_of_zero_le (show 0 ≤ nodes by omega)
  unfold ringStep
  rw [hm']
  rfl

theorem ring_nat {vol nodes : Int} (live : List Bool) (h0 : 0 ≤ vol) (h1 : 1 ≤ nodes) (h2 : nodes ≤ 64) :
    ringP vol nodes live = (((List.range nodes.toNat).map fun i => ((vol.tmod nodes).toNat + i) % nodes.toNat).map (fun n : Nat => (n : Int))).filter (livesP · live) := by
  unfold ringP ringTo
  rw [if_neg (by omega)]
  congr 1
  rw [List.map_map]
  exact List.map_congr_left fun i _ => step_nat h0 h1 i

theorem tmod_lt {vol nodes : Int} (h0 : 0 ≤ vol) (h1 : 1 ≤ nodes) : (vol.tmod nodes).toNat < nodes.toNat := by
  have hm : 0 ≤ vol.tmod nodes := Int.tmod_nonneg _ h0
  have := Int.tmod_lt_of_pos vol (show 0 < nodes by omega)
  omega

theorem ring_perm {vol nodes : Int} (live : List Bool) (h0 : 0 ≤ vol) (h1 : 1 ≤ nodes) (h2 : nodes ≤ 64) :
    (ringP vol nodes live).Perm (((List.range nodes.toNat).map (fun n : Nat => (n : Int))).filter (livesP · live)) := by
  rw [ring_nat live h0 h1 h2]
  exact ((rot_perm _ _ (tmod_lt h0 h1)).map _).filter _

theorem count_range (N n : Nat) : ((List.range N).map (fun n : Nat => (n : Int))).count (n : Int) = if n < N then 1 else 0 := by
  induction N with
  | zero => rfl
  | succ N ih =>
    rw [List.range_succ, List.map_append, List.count_append, ih]
    simp only [List.map_cons, List.map_nil, List.count_singleton]
    by_cases e : n = N
    · subst e; simp
    · have : ((N : Int) == (n : Int)) = false := by simp; omega
      rw [this]
      by_cases h : n < N
      · simp [h, show n < N + 1 by omega]
      · simp [h, show ¬ n < N + 1 by omega]

theorem ring_once {vol nodes : Int} {live : List Bool} (h0 : 0 ≤ vol) (h1 : 1 ≤ nodes) (h2 : nodes ≤ 64) (n : Nat) (hn : (n : Int) < nodes) (hl : livesP n live = true) : (ringP vol nodes live).count (n : Int) = 1 := by
  rw [(ring_perm live h0 h1 h2).count_eq, List.count_filter (by exact hl), count_range, if_pos (by omega)]

theorem ring_first {vol nodes : Int} {live : List Bool} (h0 : 0 ≤ vol) (h1 : 1 ≤ nodes) (h2 : nodes ≤ 64) (hl : livesP (vol.tmod nodes) live = true) : ∃ r, ringP vol nodes live = vol.tmod nodes :: r := by
  rw [ring_nat live h0 h1 h2]
  obtain ⟨N, hN⟩ : ∃ N, nodes.toNat = N + 1 := ⟨nodes.toNat - 1, by omega⟩
  have hm : 0 ≤ vol.tmod nodes := Int.tmod_nonneg _ h0
  have hlt := tmod_lt h0 h1
  have e : (((vol.tmod nodes).toNat + 0) % nodes.toNat : Nat) = (vol.tmod nodes).toNat := by rw [Nat.add_zero]; exact Nat.mod_eq_of_lt hlt
  have e2 : (((vol.tmod nodes).toNat : Nat) : Int) = vol.tmod nodes := by omega
  rw [show List.range nodes.toNat = 0 :: (List.range N).map Nat.succ by rw [hN, List.range_succ_eq_map]]
  simp only [List.map_cons, e, e2, List.filter_cons, hl, if_true]
  exact ⟨_, rfl⟩

theorem take_all (xs ys : List Int) (hl : xs.length = ys.length) (h : xs.take xs.length = ys.take xs.length) : xs = ys := by
  rw [List.take_length, hl, List.take_length] at h; exact h

theorem ints_sat (xs ys : List Int) (hx : xs.length ≤ 1000000) (σ : Sto) : SatCall Try.prog 22 [.sl .sh 1 (xs.map (.int .i64)), .sl .sh 1 (ys.map (.int .i64))] σ fun x σ' => x = .bool (decide (xs = ys)) ∧ σ' = σ := by
  refine sat_fn tab Try.func22 rfl (Nat.le_of_ble_eq_true rfl) (by decide) fun hso => ?_
  repeat' (first | (apply og_ops; (first | (apply og_move; (apply op_move (tt := tt); (focus ((conv => lhs; whnf); try exact rfl)); exact rfl)) | (apply og_assign; (apply op_assign (tt := tt); (focus ((conv => lhs; whnf); try exact rfl)); exact rfl)) | (apply og_bin; (apply op_bin true tab; (focus ((conv => lhs; whnf; arg 1; whnf; arg 2; whnf); try exact rfl)); (exact trivial); exact rfl)) | (apply og_callb; (apply op_len tab; (focus ((conv => lhs; whnf; arg 1; whnf; arg 2; whnf); try exact rfl)); (exact trivial); exact rfl)) | (apply ops_nil))) | (apply og_sat; (first | (apply sat_seq) | (apply sat_region) | (apply sat_cond; exact (rfl : _ = PV.bool _); all_goals intro hb) | (apply sat_skip) | (apply sat_ret) | (apply sat_block))) | (apply pe_norm) | (apply pe_ret))
  · (change fnPost _ _ _ _ _ _ _; apply fn_end1; (exact .inr rfl); exact rfl; (focus ((conv => lhs; whnf); try exact rfl)); exact Wk.same _; exact rfl; exact (List.append_nil _).symm; exact Nat.le_refl _; exact trivial; exact hso)
    have : ¬ xs = ys := fun e => by subst e; simp_all
    exact ⟨by simp [this], rfl⟩
  · have hl : xs.length = ys.length := by simp_all; omega
    refine sat_loopW (fun i : Nat => [(0, .sl .sh 1 (xs.map (.int .i64))), (1, .sl .sh 1 (ys.map (.int .i64))), (5, .int .i64 i)]) (fun _ => σ) (fun i => i ≤ xs.length ∧ xs.take i = ys.take i) (fun i => xs.length - i) 0 ⟨Nat.zero_le _, rfl⟩ ?_ rfl ?_
    · (repeat' (first | exact trivial | exact Wk.same _ | refine ⟨?_, ?_⟩))
    rintro i ⟨hi, ht⟩
    repeat' (first | (apply og_ops; (first | (apply og_move; (apply op_move (tt := tt); (focus ((conv => lhs; whnf); try exact rfl)); exact rfl)) | (apply og_assign; (apply op_assign (tt := tt); (focus ((conv => lhs; whnf); try exact rfl)); exact rfl)) | (apply og_bin; (apply op_bin true tab; (focus ((conv => lhs; whnf; arg 1; whnf; arg 2; whnf); try exact rfl)); (first | exact trivial | (simp only [InR]; omega)); exact rfl)) | (apply og_callb; (apply op_len tab; (focus ((conv => lhs; whnf; arg 1; whnf; arg 2; whnf); try exact rfl)); (exact trivial); exact rfl)) | (apply ops_nil))) | (apply og_sat; (first | (apply sat_seq) | (apply sat_region) | (apply sat_cond; exact (rfl : _ = PV.bool _); all_goals intro hb) | (apply sat_skip) | (apply sat_ret) | (apply sat_block) | (apply sat_exit) | (apply sat_drawC (k := 8); exact mixed; decide +kernel; decide +kernel))) | (apply pe_norm) | (apply pe_ret) | (apply pb_norm) | (apply pb_ret) | (apply pe_exit) | (apply pb_same) | (apply og_dd; (first | (apply dd_lk; (first | (apply lg_indexAddr; exact lk_indexMap (tI := 3) _ tab rfl (by (focus ((conv => lhs; whnf); try exact rfl))) (by (focus ((conv => lhs; whnf); try exact rfl))) rfl (by (omega)) (by (simp only [decide_eq_true_eq, decide_eq_false_iff_not, List.length_map, InR, ne_eq] at *; omega)) (by (focus ((conv => lhs; whnf); try exact rfl)))) | (apply lg_move; (apply lk_move (tt := tt); (focus ((conv => lhs; whnf); try exact rfl)))) | (apply lg_load; (apply lk_load tab; (focus ((conv => lhs; whnf; arg 1; whnf; arg 2; whnf); try skip)); (exact trivial)))); exact rfl; exact rfl) | (apply dd_nil))))
    · (change fnPost _ _ _ _ _ _ _; apply fn_end1; (exact .inr rfl); exact rfl; (focus ((conv => lhs; whnf); try exact rfl)); exact Wk.same _; exact rfl; exact (List.append_nil _).symm; exact Nat.le_refl _; exact trivial; exact hso)
      have : ¬ xs = ys := fun e => by subst e; simp_all
      exact ⟨by simp [this], rfl⟩
    · have hil : i < xs.length := by have := of_decide_eq_true (p := (i : Int) < ((xs.map (PV.int .i64)).length : Int)) ‹_›; rw [List.length_map] at this; omega
      have he : xs.getD i default = ys.getD i default := by simpa using ‹(xs.getD i default != ys.getD i default) = false›
      refine ⟨i + 1, ⟨by omega, ?_⟩, by omega, ?_, rfl⟩
      · rw [List.take_succ_eq_append_getElem hil, List.take_succ_eq_append_getElem (by omega), ht]
        have e1 : xs.getD i default = xs[i] := by simp [List.getD, hil]
        have e2 : ys.getD i default = ys[i] := by simp [List.getD, show i < ys.length by omega]
        rw [← e1, ← e2, he]
      · (repeat' (first | exact trivial | exact Wk.same _ | refine ⟨?_, ?_⟩))
    · (change fnPost _ _ _ _ _ _ _; apply fn_end1; (exact .inr rfl); exact rfl; (focus ((conv => lhs; whnf); try exact rfl)); exact Wk.same _; exact rfl; exact (List.append_nil _).symm; exact Nat.le_refl _; exact trivial; exact hso)
      have hil := of_decide_eq_false (p := (i : Int) < ((xs.map (PV.int .i64)).length : Int)) ‹_›
      rw [List.length_map] at hil
      have : i = xs.length := by omega
      subst this
      have := take_all xs ys hl ht
      exact ⟨by simp [this], rfl⟩

/-- The living ones among a row of numbers. -/
def liv (live : List Bool) (l : List Nat) : List Int := (l.map fun n : Nat => (n : Int)).filter (livesP · live)

theorem liv_len (live : List Bool) (l : List Nat) : (liv live l).length ≤ l.length := by
  refine Nat.le_trans (List.length_filter_le _ _) ?_
  simp
theorem liv_app (live : List Bool) (l r : List Nat) : liv live (l ++ r) = liv live l ++ liv live r := by simp [liv]
theorem liv_range (live : List Bool) {v n : Nat} (h : v ≤ n) : liv live (List.range' v (n + 1 - v)) = liv live (List.range' v (n - v)) ++ if livesP n live then [(n : Int)] else [] := by
  rw [show n + 1 - v = (n - v) + 1 by omega, List.range'_concat, liv_app]
  congr 1
  rw [Nat.one_mul, show v + (n - v) = n by omega]
  cases hl : livesP n live <;> simp [liv, hl]
theorem livesP_nat (n : Nat) (live : List Bool) : livesP n live = (decide ((n : Int) < ((live.map PV.bool).length : Int)) && live.getD n default) := by
  simp [livesP]

theorem refRing_sat (vol nodes : Int) (live : List Bool) (σ : Sto) : SatCall Try.prog 58 [.int .i64 vol, .int .i64 nodes, .sl .sh 1 (live.map .bool)] σ fun x σ' => x = .sl .sh 1 ((ringP vol nodes live).map (.int .i64)) ∧ σ' = σ := by
  refine sat_fn tab Try.func58 rfl (Nat.le_of_ble_eq_true rfl) (by decide) fun hso => ?_
  repeat' (first | (apply og_ops; (first | (apply og_guard; (first | (apply ops_guard_t; exact (rfl : _ = some _); exact (rfl : _ = PV.bool _); (assumption)) | (apply ops_guard_f'; exact (rfl : _ = some _); exact (rfl : _ = PV.bool _); (first | exact rfl | assumption); exact ltn rfl) | (apply ops_gsplit; exact (rfl : _ = some _); exact (rfl : _ = PV.bool _); all_goals intro hb))) | (apply og_move; (apply op_move (tt := tt); (focus ((conv => lhs; whnf); try exact rfl)); exact rfl)) | (apply og_assign; (first | (apply op_nil (tt := tt); exact rfl; exact ltn rfl) | (apply op_assign (tt := tt); (focus ((conv => lhs; whnf); try exact rfl)); exact rfl))) | (apply og_bin; (apply op_bin true tab; (focus ((conv => lhs; whnf; arg 1; whnf; arg 2; whnf); try exact rfl)); (first | exact trivial | (simp only [decide_eq_true_eq, decide_eq_false_iff_not, List.length_map, InR, ne_eq] at *; omega)); exact rfl)) | (apply og_pick; (apply op_pick (tt := tt); exact (rfl : _ = PV.bool _); (first | refine .inl ⟨rfl, ?_⟩ | refine .inl ⟨by assumption, ?_⟩ | refine .inr ⟨by assumption, ?_⟩); (focus ((conv => lhs; whnf); try exact rfl)); exact ltn rfl)) | (apply ops_nil))) | (apply og_sat; (first | (apply sat_seq) | (apply sat_region) | (apply sat_cond_t; exact rfl; (exact rfl)) | (apply sat_cond; exact (rfl : _ = PV.bool _); all_goals intro hb) | (apply sat_skip) | (apply sat_ret) | (apply sat_block))) | (apply pe_norm) | (apply pe_ret))
  · (change fnPost _ _ _ _ _ _ _; apply fn_end1; (exact .inr rfl); exact rfl; (focus ((conv => lhs; whnf); try exact rfl)); (exact Wk.sh); exact rfl; exact (List.append_nil _).symm; exact Nat.le_refl _; exact trivial; exact hso)
    have : ringP vol nodes live = [] := by simp only [ringP]; rw [if_pos (.inl (of_decide_eq_true ‹_›))]
    exact ⟨by rw [this]; rfl, rfl⟩
  · (change fnPost _ _ _ _ _ _ _; apply fn_end1; (exact .inr rfl); exact rfl; (focus ((conv => lhs; whnf); try exact rfl)); (exact Wk.sh); exact rfl; exact (List.append_nil _).symm; exact Nat.le_refl _; exact trivial; exact hso)
    have : ringP vol nodes live = [] := by simp only [ringP]; rw [if_pos (.inr (by have := of_decide_eq_true (p := nodes < 1) ‹_›; omega))]
    exact ⟨by rw [this]; rfl, rfl⟩
  · (change fnPost _ _ _ _ _ _ _; apply fn_end1; (exact .inr rfl); exact rfl; (focus ((conv => lhs; whnf); try exact rfl)); (exact Wk.sh); exact rfl; exact (List.append_nil _).symm; exact Nat.le_refl _; exact trivial; exact hso)
    have : ringP vol nodes live = [] := by simp only [ringP]; rw [if_pos (.inr (by have := of_decide_eq_true (p := 64 < nodes) ‹_›; omega))]
    exact ⟨by rw [this]; rfl, rfl⟩
  · have hv := of_decide_eq_false (p := vol < 0) ‹_›
    have hn1 := of_decide_eq_false (p := nodes < 1) ‹_›
    have hn2 := of_decide_eq_false (p := 64 < nodes) ‹_›
    have hm : 0 ≤ vol.tmod nodes := Int.tmod_nonneg _ (by omega)
    have hlt := tmod_lt (vol := vol) (nodes := nodes) (by omega) (by omega)
    obtain ⟨v, hvv⟩ : ∃ v : Nat, vol.tmod nodes = v := ⟨(vol.tmod nodes).toNat, by omega⟩
    have hvn : v < nodes.toNat := by rw [hvv] at hlt; simpa using hlt
    refine sat_loopW (fun n : Nat => [(0, .int .i64 vol), (1, .int .i64 nodes), (2, .sl .sh 1 (live.map .bool)), (7, .sl .ow 1 ((liv live (List.range' v (n - v))).map (.int .i64))), (8, .int .i64 n)]) (fun _ => σ) (fun n => v ≤ n ∧ n ≤ nodes.toNat) (fun n => nodes.toNat - n) v ⟨Nat.le_refl _, by omega⟩ ?_ rfl ?_
    · rw [Nat.sub_self]
      simp only [← hvv]
      (repeat' (first | exact trivial | exact Wk.same _ | refine ⟨?_, ?_⟩))
    rintro n ⟨hn, hn'⟩
    have hL := liv_len live (List.range' v (n - v))
    rw [List.length_range'] at hL
    repeat' (first | (apply og_ops; (first | (apply og_guard; (first | (apply ops_guard_t; exact (rfl : _ = some _); exact (rfl : _ = PV.bool _); (assumption)) | (apply ops_guard_f'; exact (rfl : _ = some _); exact (rfl : _ = PV.bool _); (assumption); exact ltn rfl) | (apply ops_gsplit; exact (rfl : _ = some _); exact (rfl : _ = PV.bool _); all_goals intro hb))) | (apply og_move; (first | (apply op_take (d := 38) (.inr rfl); (focus ((conv => lhs; whnf); try exact rfl)); exact rfl; exact ltn rfl) | (apply op_move (tt := tt); (focus ((conv => lhs; whnf); try exact rfl)); exact rfl))) | (apply og_assign; (first | (apply op_take (.inl rfl); (focus ((conv => lhs; whnf); try exact rfl)); exact rfl; exact ltn rfl) | (apply op_assign (tt := tt); (focus ((conv => lhs; whnf); try exact rfl)); exact rfl))) | (apply og_bin; (apply op_bin true tab; (focus ((conv => lhs; whnf; arg 1; whnf; arg 2; whnf); try exact rfl)); (first | exact trivial | (simp only [InR]; omega)); exact rfl)) | (apply og_pick; (apply op_pick (tt := tt); exact (rfl : _ = PV.bool _); (first | refine .inl ⟨by assumption, ?_⟩ | refine .inr ⟨by assumption, ?_⟩); (focus ((conv => lhs; whnf); try exact rfl)); exact ltn rfl)) | (apply og_load; (apply op_load tab; (focus ((conv => lhs; whnf; arg 1; whnf; arg 2; whnf); try skip)); (exact trivial); exact rfl)) | (apply og_callb; (first | (apply op_appendX tab; (focus ((conv => lhs; whnf); try exact rfl)); exact rfl; exact rfl; exact rfl; exact rfl; exact rfl; (focus ((conv => lhs; whnf); try exact rfl)); exact rfl; (simp only [List.length_map, List.length_append, List.length_cons, List.length_nil, List.length_take]; omega); (exact rfl); exact rfl) | (apply op_len tab; (focus ((conv => lhs; whnf; arg 1; whnf; arg 2; whnf); try exact rfl)); (exact trivial); exact rfl))) | (apply og_indexAddr; (refine op_indexMap (tI := 3) _ tab rfl (by (focus ((conv => lhs; whnf); try exact rfl))) (by (focus ((conv => lhs; whnf); try exact rfl))) rfl (by (omega)) (by (simp only [decide_eq_true_eq, decide_eq_false_iff_not, List.length_map, InR, ne_eq] at *; omega)) (by (focus ((conv => lhs; whnf); try exact rfl))) (ltn rfl) ?_)) | (apply og_buildSlice; (apply op_buildSliceX .ow tab; exact rfl; (focus ((repeat (apply opvs_cons; (focus ((conv => lhs; whnf); try exact rfl)))); exact opvs_nil)); exact rfl; exact rfl; exact rfl; exact rfl; exact rfl; exact rfl)) | (apply ops_nil))) | (apply og_sat; (first | (apply sat_seq) | (apply sat_region) | (apply sat_cond_f; exact rfl; (exact rfl)) | (apply sat_cond; exact (rfl : _ = PV.bool _); all_goals intro hb) | (apply sat_skip) | (apply sat_block) | (apply sat_exit))) | (apply pe_norm) | (apply pb_norm) | (apply pe_exit) | (apply pb_same))
    · have hl : livesP n live = true := by rw [livesP_nat]; simp_all
      have hlt' := of_decide_eq_true (p := (n : Int) < nodes) ‹_›
      refine ⟨n + 1, ⟨by omega, by omega⟩, by omega, ?_, rfl⟩
      rw [liv_range live hn, hl]
      (repeat' (first | exact trivial | exact Wk.same _ | (refine Wk.eq ?_; (conv => rhs; whnf); simp <;> fail) | refine ⟨?_, ?_⟩))
    · have hl : livesP n live = false := by rw [livesP_nat]; simp_all
      have hlt' := of_decide_eq_true (p := (n : Int) < nodes) ‹_›
      refine ⟨n + 1, ⟨by omega, by omega⟩, by omega, ?_, rfl⟩
      rw [liv_range live hn, hl]
      (repeat' (first | exact trivial | exact Wk.same _ | (refine Wk.eq ?_; (conv => rhs; whnf); simp <;> fail) | refine ⟨?_, ?_⟩))
    · have hl : livesP n live = false := by rw [livesP_nat]; simp_all
      have hlt' := of_decide_eq_true (p := (n : Int) < nodes) ‹_›
      refine ⟨n + 1, ⟨by omega, by omega⟩, by omega, ?_, rfl⟩
      rw [liv_range live hn, hl]
      (repeat' (first | exact trivial | exact Wk.same _ | (refine Wk.eq ?_; (conv => rhs; whnf); simp <;> fail) | refine ⟨?_, ?_⟩))
    have hlt' := of_decide_eq_false (p := (n : Int) < nodes) ‹_›
    have hnn : n = nodes.toNat := by omega
    refine sat_loopW (fun j : Nat => [(0, .int .i64 vol), (1, .int .i64 nodes), (2, .sl .sh 1 (live.map .bool)), (7, .sl .ow 1 ((liv live (List.range' v (n - v) ++ List.range j)).map (.int .i64))), (9, .int .i64 j)]) (fun _ => σ) (fun j => j ≤ v) (fun j => v - j) 0 (Nat.zero_le _) ?_ rfl ?_
    · rw [List.range_zero, List.append_nil]
      (repeat' (first | exact trivial | exact Wk.same _ | refine ⟨?_, ?_⟩))
    intro j hj
    have hL := liv_len live (List.range' v (n - v) ++ List.range j)
    rw [List.length_append, List.length_range', List.length_range] at hL
    have hs : liv live (List.range' v (n - v) ++ List.range (j + 1)) = liv live (List.range' v (n - v) ++ List.range j) ++ if livesP j live then [(j : Int)] else [] := by
      rw [List.range_succ, ← List.append_assoc, liv_app]
      congr 1
      cases hl : livesP j live <;> simp [liv, hl]
    repeat' (first | (apply og_ops; (first | (apply og_guard; (first | (apply ops_guard_t; exact (rfl : _ = some _); exact (rfl : _ = PV.bool _); (assumption)) | (apply ops_guard_f'; exact (rfl : _ = some _); exact (rfl : _ = PV.bool _); (assumption); exact ltn rfl) | (apply ops_gsplit; exact (rfl : _ = some _); exact (rfl : _ = PV.bool _); all_goals intro hb))) | (apply og_move; (first | (apply op_take (d := 59) (.inr rfl); (focus ((conv => lhs; whnf); try exact rfl)); exact rfl; exact ltn rfl) | (apply op_move (tt := tt); (focus ((conv => lhs; whnf); try exact rfl)); exact rfl))) | (apply og_assign; (first | (apply op_take (.inl rfl); (focus ((conv => lhs; whnf); try exact rfl)); exact rfl; exact ltn rfl) | (apply op_assign (tt := tt); (focus ((conv => lhs; whnf); try exact rfl)); exact rfl))) | (apply og_bin; (apply op_bin true tab; (focus ((conv => lhs; whnf; arg 1; whnf; arg 2; whnf); try exact rfl)); (first | exact trivial | omega | (simp only [InR]; omega)); exact rfl)) | (apply og_pick; (apply op_pick (tt := tt); exact (rfl : _ = PV.bool _); (first | refine .inl ⟨by assumption, ?_⟩ | refine .inr ⟨by assumption, ?_⟩); (focus ((conv => lhs; whnf); try exact rfl)); exact ltn rfl)) | (apply og_load; (apply op_load tab; (focus ((conv => lhs; whnf; arg 1; whnf; arg 2; whnf); try skip)); (exact trivial); exact rfl)) | (apply og_callb; (first | (apply op_appendX tab; (focus ((conv => lhs; whnf); try exact rfl)); exact rfl; exact rfl; exact rfl; exact rfl; exact rfl; (focus ((conv => lhs; whnf); try exact rfl)); exact rfl; (simp only [List.length_map, List.length_append, List.length_cons, List.length_nil, List.length_take]; omega); (exact rfl); exact rfl) | (apply op_len tab; (focus ((conv => lhs; whnf; arg 1; whnf; arg 2; whnf); try exact rfl)); (exact trivial); exact rfl))) | (apply og_indexAddr; (refine op_indexMap (tI := 3) _ tab rfl (by (focus ((conv => lhs; whnf); try exact rfl))) (by (focus ((conv => lhs; whnf); try exact rfl))) rfl (by (omega)) (by (simp only [decide_eq_true_eq, decide_eq_false_iff_not, List.length_map, InR, ne_eq] at *; omega)) (by (focus ((conv => lhs; whnf); try exact rfl))) (ltn rfl) ?_)) | (apply og_buildSlice; (apply op_buildSliceX .ow tab; exact rfl; (focus ((repeat (apply opvs_cons; (focus ((conv => lhs; whnf); try exact rfl)))); exact opvs_nil)); exact rfl; exact rfl; exact rfl; exact rfl; exact rfl; exact rfl)) | (apply ops_nil))) | (apply og_sat; (first | (apply sat_seq) | (apply sat_region) | (apply sat_cond_f; exact rfl; (exact rfl)) | (apply sat_cond; exact (rfl : _ = PV.bool _); all_goals intro hb) | (apply sat_skip) | (apply sat_ret) | (apply sat_block) | (apply sat_exit))) | (apply pe_norm) | (apply pb_norm) | (apply pe_exit) | (apply pb_same))
    · have hl : livesP j live = true := by rw [livesP_nat]; simp_all
      have hlt' := of_decide_eq_true (p := (j : Int) < vol.tmod nodes) ‹_›
      refine ⟨j + 1, by omega, by omega, ?_, rfl⟩
      rw [hs, hl]
      (repeat' (first | exact trivial | exact Wk.same _ | (refine Wk.eq ?_; (conv => rhs; whnf); simp <;> fail) | refine ⟨?_, ?_⟩))
    · have hl : livesP j live = false := by rw [livesP_nat]; simp_all
      have hlt' := of_decide_eq_true (p := (j : Int) < vol.tmod nodes) ‹_›
      refine ⟨j + 1, by omega, by omega, ?_, rfl⟩
      rw [hs, hl]
      (repeat' (first | exact trivial | exact Wk.same _ | (refine Wk.eq ?_; (conv => rhs; whnf); simp <;> fail) | refine ⟨?_, ?_⟩))
    · have hl : livesP j live = false := by rw [livesP_nat]; simp_all
      have hlt' := of_decide_eq_true (p := (j : Int) < vol.tmod nodes) ‹_›
      refine ⟨j + 1, by omega, by omega, ?_, rfl⟩
      rw [hs, hl]
      (repeat' (first | exact trivial | exact Wk.same _ | (refine Wk.eq ?_; (conv => rhs; whnf); simp <;> fail) | refine ⟨?_, ?_⟩))
    · (change fnPost _ _ _ _ _ _ _; apply fn_end1; (exact .inr rfl); exact rfl; (focus ((conv => lhs; whnf); try exact rfl)); exact Wk.same _; exact rfl; exact (List.append_nil _).symm; exact Nat.le_refl _; exact trivial; exact hso)
      have hlt' := of_decide_eq_false (p := (j : Int) < vol.tmod nodes) ‹_›
      have hjv : j = v := by omega
      have hr : ringP vol nodes live = liv live (List.range' v (n - v) ++ List.range v) := by
        rw [ring_nat live (by omega) (by omega) (by omega), hvv, Int.toNat_natCast, rot_eq v _ hvn, hnn]; rfl
      rw [hr, hjv]
      exact ⟨rfl, rfl⟩

/-- A place: its region, its node. -/
def plc (p : Int × Int) : PV := .agg [.int .i64 p.1, .int .i64 p.2]

theorem take_allP (xs ys : List (Int × Int)) (hl : xs.length = ys.length) (h : xs.take xs.length = ys.take xs.length) : xs = ys := by
  rw [List.take_length, hl, List.take_length] at h; exact h

theorem places_sat (xs ys : List (Int × Int)) (hx : xs.length ≤ 1000000) (σ : Sto) : SatCall Try.prog 17 [.sl .sh 2 (xs.map plc), .sl .sh 2 (ys.map plc)] σ fun x σ' => x = .bool (decide (xs = ys)) ∧ σ' = σ := by
  refine sat_fn tab Try.func17 rfl (Nat.le_of_ble_eq_true rfl) (by decide) fun hso => ?_
  repeat' (first | (apply og_ops; (first | (apply og_move; (apply op_move (tt := tt); (focus ((conv => lhs; whnf); try exact rfl)); exact rfl)) | (apply og_assign; (apply op_assign (tt := tt); (focus ((conv => lhs; whnf); try exact rfl)); exact rfl)) | (apply og_bin; (apply op_bin true tab; (focus ((conv => lhs; whnf; arg 1; whnf; arg 2; whnf); try exact rfl)); (exact trivial); exact rfl)) | (apply og_callb; (apply op_len tab; (focus ((conv => lhs; whnf; arg 1; whnf; arg 2; whnf); try exact rfl)); (exact trivial); exact rfl)) | (apply ops_nil))) | (apply og_sat; (first | (apply sat_seq) | (apply sat_region) | (apply sat_cond; exact (rfl : _ = PV.bool _); all_goals intro hb) | (apply sat_skip) | (apply sat_ret) | (apply sat_block))) | (apply pe_norm) | (apply pe_ret))
  · (change fnPost _ _ _ _ _ _ _; apply fn_end1; (exact .inr rfl); exact rfl; (focus ((conv => lhs; whnf); try exact rfl)); exact Wk.same _; exact rfl; exact (List.append_nil _).symm; exact Nat.le_refl _; exact trivial; exact hso)
    have : ¬ xs = ys := fun e => by subst e; simp_all
    exact ⟨by simp [this], rfl⟩
  · have hl : xs.length = ys.length := by simp_all; omega
    refine sat_loopW (fun i : Nat => [(0, .sl .sh 2 (xs.map plc)), (1, .sl .sh 2 (ys.map plc)), (5, .int .i64 i)]) (fun _ => σ) (fun i => i ≤ xs.length ∧ xs.take i = ys.take i) (fun i => xs.length - i) 0 ⟨Nat.zero_le _, rfl⟩ ?_ rfl ?_
    · (repeat' (first | exact trivial | exact Wk.same _ | refine ⟨?_, ?_⟩))
    rintro i ⟨hi, ht⟩
    repeat' (first | (apply og_ops; (first | (apply og_move; (apply op_move (tt := tt); (focus ((conv => lhs; whnf); try exact rfl)); exact rfl)) | (apply og_assign; (apply op_assign (tt := tt); (focus ((conv => lhs; whnf); try exact rfl)); exact rfl)) | (apply og_bin; (first | (apply op_bin true tab; (focus ((conv => lhs; whnf; arg 1; whnf; arg 2; whnf); try exact rfl)); (first | exact trivial | (simp only [InR]; omega)); exact rfl) | (apply op_lk; (apply lk_neq tab eqok; exact rfl; exact rfl; (focus ((conv => lhs; whnf); try exact rfl)); (focus ((conv => lhs; whnf); try exact rfl)); exact rfl; exact rfl); (intro c h; cases h); exact rfl))) | (apply og_callb; (apply op_len tab; (focus ((conv => lhs; whnf; arg 1; whnf; arg 2; whnf); try exact rfl)); (exact trivial); exact rfl)) | (apply ops_nil))) | (apply og_sat; (first | (apply sat_seq) | (apply sat_region) | (apply sat_cond; exact (rfl : _ = PV.bool _); all_goals intro hb) | (apply sat_skip) | (apply sat_ret) | (apply sat_block) | (apply sat_exit) | (apply sat_drawC (k := 8); exact mixed; decide +kernel; decide +kernel))) | (apply pe_norm) | (apply pe_ret) | (apply pb_norm) | (apply pb_ret) | (apply pe_exit) | (apply pb_same) | (apply og_dd; (first | (apply dd_lk; (first | (apply lg_indexAddr; exact lk_indexMap (tI := 3) _ tab rfl (by (focus ((conv => lhs; whnf); try exact rfl))) (by (focus ((conv => lhs; whnf); try exact rfl))) rfl (by (omega)) (by (simp only [decide_eq_true_eq, decide_eq_false_iff_not, List.length_map, InR, ne_eq] at *; omega)) (by (focus ((conv => lhs; whnf); try exact rfl)))) | (apply lg_move; (apply lk_move (tt := tt); (focus ((conv => lhs; whnf); try exact rfl)))) | (apply lg_load; (apply lk_load tab; (focus ((conv => lhs; whnf; arg 1; whnf; arg 2; whnf); try skip)); (exact Nat.le_of_ble_eq_true rfl)))); exact rfl; exact rfl) | (apply dd_nil))))
    · (change fnPost _ _ _ _ _ _ _; apply fn_end1; (exact .inr rfl); exact rfl; (focus ((conv => lhs; whnf); try exact rfl)); exact Wk.same _; exact rfl; exact (List.append_nil _).symm; exact Nat.le_refl _; exact trivial; exact hso)
      have : ¬ xs = ys := fun e => by subst e; simp_all
      exact ⟨by simp [this], rfl⟩
    · have hil : i < xs.length := by have := of_decide_eq_true (p := (i : Int) < ((xs.map plc).length : Int)) ‹_›; rw [List.length_map] at this; omega
      have he : xs.getD i default = ys.getD i default := Prod.ext_iff.2 (by simpa using hb)
      refine ⟨i + 1, ⟨by omega, ?_⟩, by omega, ?_, rfl⟩
      · rw [List.take_succ_eq_append_getElem hil, List.take_succ_eq_append_getElem (by omega), ht]
        have e1 : xs.getD i default = xs[i] := by simp [List.getD, hil]
        have e2 : ys.getD i default = ys[i] := by simp [List.getD, show i < ys.length by omega]
        rw [← e1, ← e2, he]
      · (repeat' (first | exact trivial | exact Wk.same _ | refine ⟨?_, ?_⟩))
    · (change fnPost _ _ _ _ _ _ _; apply fn_end1; (exact .inr rfl); exact rfl; (focus ((conv => lhs; whnf); try exact rfl)); exact Wk.same _; exact rfl; exact (List.append_nil _).symm; exact Nat.le_refl _; exact trivial; exact hso)
      have hil := of_decide_eq_false (p := (i : Int) < ((xs.map plc).length : Int)) ‹_›
      rw [List.length_map] at hil
      have : i = xs.length := by omega
      subst this
      have := take_allP xs ys hl ht
      exact ⟨by simp [this], rfl⟩

/-- The places, and the error's number. -/
def spreadP (vol r many nodes : Int) (live : List Bool) : List (Int × Int) × Int :=
  if ¬ (1 ≤ r ∧ r ≤ 3) ∨ many < 0 ∨ vol < 0 ∨ ¬ (1 ≤ nodes ∧ nodes ≤ 64) then ([], 1)
  else if ((ringP vol nodes live).length : Int) < many then ([], 10)
  else (((ringP vol nodes live).take many.toNat).map fun n => (r, n), 0)

theorem refSpread_sat (vol r many nodes : Int) (live : List Bool) (σ : Sto) : SatCall Try.prog 35 [.int .i64 vol, .int .i64 r, .int .i64 many, .int .i64 nodes, .sl .sh 1 (live.map .bool)] σ fun x σ' =>
    x = .tup [.sl .sh 2 ((spreadP vol r many nodes live).1.map plc), .int .i64 (spreadP vol r many nodes live).2] ∧ σ' = σ := by
  refine sat_fn tab Try.func35 rfl (Nat.le_of_ble_eq_true rfl) (by decide) fun hso => ?_
  repeat' (first | (apply og_ops; (first | (apply og_guard; (first | (apply ops_guard_t; exact (rfl : _ = some _); exact (rfl : _ = PV.bool _); (assumption)) | (apply ops_guard_f'; exact (rfl : _ = some _); exact (rfl : _ = PV.bool _); (first | exact rfl | assumption); exact ltn rfl) | (apply ops_gsplit; exact (rfl : _ = some _); exact (rfl : _ = PV.bool _); all_goals intro hb))) | (apply og_move; (apply op_move (tt := tt); (focus ((conv => lhs; whnf); try exact rfl)); exact rfl)) | (apply og_assign; (first | (apply op_nil (tt := tt); exact rfl; exact ltn rfl) | (apply op_assign (tt := tt); (focus ((conv => lhs; whnf); try exact rfl)); exact rfl))) | (apply og_callv; (refine op_callP (tt := tt) cal58 (refRing_sat _ _ _ _) rfl rfl rfl rfl rfl ?_)) | (apply og_bin; (apply op_bin true tab; (focus ((conv => lhs; whnf; arg 1; whnf; arg 2; whnf); try exact rfl)); (exact trivial); exact rfl)) | (apply og_pick; (apply op_pick (tt := tt); exact (rfl : _ = PV.bool _); (first | refine .inl ⟨rfl, ?_⟩ | refine .inl ⟨by assumption, ?_⟩ | refine .inr ⟨by assumption, ?_⟩); (focus ((conv => lhs; whnf); try exact rfl)); exact ltn rfl)) | (apply og_callb; (apply op_len tab; (focus ((conv => lhs; whnf; arg 1; whnf; arg 2; whnf); try exact rfl)); (exact trivial); exact rfl)) | (apply ops_nil))) | (apply og_sat; (first | (apply sat_seq) | (apply sat_region) | (apply sat_cond_t; exact rfl; (exact rfl)) | (apply sat_cond; exact (rfl : _ = PV.bool _); all_goals intro hb) | (apply sat_skip) | (apply sat_ret) | (apply sat_block))) | (apply pe_norm) | (apply pe_ret))
  · (change fnPost _ _ _ _ _ _ _; apply fn_end2; (exact .inr rfl); exact rfl; (focus ((conv => lhs; whnf); try exact rfl)); (focus ((conv => lhs; whnf); try exact rfl)); (exact Wk.sh); (exact Wk.same _); exact rfl; exact rfl; exact (List.append_nil _).symm; exact Nat.le_refl _; exact trivial; exact trivial; exact hso)
    have h := of_decide_eq_true (p := r < 1) ‹_›
    exact ⟨by simp only [spreadP]; rw [if_pos (by omega)]; rfl, rfl⟩
  · (change fnPost _ _ _ _ _ _ _; apply fn_end2; (exact .inr rfl); exact rfl; (focus ((conv => lhs; whnf); try exact rfl)); (focus ((conv => lhs; whnf); try exact rfl)); (exact Wk.sh); (exact Wk.same _); exact rfl; exact rfl; exact (List.append_nil _).symm; exact Nat.le_refl _; exact trivial; exact trivial; exact hso)
    have h := of_decide_eq_true (p := 3 < r) ‹_›
    exact ⟨by simp only [spreadP]; rw [if_pos (by omega)]; rfl, rfl⟩
  · (change fnPost _ _ _ _ _ _ _; apply fn_end2; (exact .inr rfl); exact rfl; (focus ((conv => lhs; whnf); try exact rfl)); (focus ((conv => lhs; whnf); try exact rfl)); (exact Wk.sh); (exact Wk.same _); exact rfl; exact rfl; exact (List.append_nil _).symm; exact Nat.le_refl _; exact trivial; exact trivial; exact hso)
    have h := of_decide_eq_true (p := many < 0) ‹_›
    exact ⟨by simp only [spreadP]; rw [if_pos (by omega)]; rfl, rfl⟩
  · (change fnPost _ _ _ _ _ _ _; apply fn_end2; (exact .inr rfl); exact rfl; (focus ((conv => lhs; whnf); try exact rfl)); (focus ((conv => lhs; whnf); try exact rfl)); (exact Wk.sh); (exact Wk.same _); exact rfl; exact rfl; exact (List.append_nil _).symm; exact Nat.le_refl _; exact trivial; exact trivial; exact hso)
    have h := of_decide_eq_true (p := vol < 0) ‹_›
    exact ⟨by simp only [spreadP]; rw [if_pos (by omega)]; rfl, rfl⟩
  · (change fnPost _ _ _ _ _ _ _; apply fn_end2; (exact .inr rfl); exact rfl; (focus ((conv => lhs; whnf); try exact rfl)); (focus ((conv => lhs; whnf); try exact rfl)); (exact Wk.sh); (exact Wk.same _); exact rfl; exact rfl; exact (List.append_nil _).symm; exact Nat.le_refl _; exact trivial; exact trivial; exact hso)
    have h := of_decide_eq_true (p := nodes < 1) ‹_›
    exact ⟨by simp only [spreadP]; rw [if_pos (by omega)]; rfl, rfl⟩
  · (change fnPost _ _ _ _ _ _ _; apply fn_end2; (exact .inr rfl); exact rfl; (focus ((conv => lhs; whnf); try exact rfl)); (focus ((conv => lhs; whnf); try exact rfl)); (exact Wk.sh); (exact Wk.same _); exact rfl; exact rfl; exact (List.append_nil _).symm; exact Nat.le_refl _; exact trivial; exact trivial; exact hso)
    have h := of_decide_eq_true (p := 64 < nodes) ‹_›
    exact ⟨by simp only [spreadP]; rw [if_pos (by omega)]; rfl, rfl⟩
  · (change fnPost _ _ _ _ _ _ _; apply fn_end2; (exact .inr rfl); exact rfl; (focus ((conv => lhs; whnf); try exact rfl)); (focus ((conv => lhs; whnf); try exact rfl)); (exact Wk.sh); (exact Wk.same _); exact rfl; exact rfl; exact (List.append_nil _).symm; exact Nat.le_refl _; exact trivial; exact trivial; exact hso)
    have g1 := of_decide_eq_false (p := r < 1) ‹_›
    have g2 := of_decide_eq_false (p := 3 < r) ‹_›
    have g3 := of_decide_eq_false (p := many < 0) ‹_›
    have g4 := of_decide_eq_false (p := vol < 0) ‹_›
    have g5 := of_decide_eq_false (p := nodes < 1) ‹_›
    have g6 := of_decide_eq_false (p := 64 < nodes) ‹_›
    have h := of_decide_eq_true (p := (((ringP vol nodes live).map (PV.int .i64)).length : Int) < many) ‹_›
    rw [List.length_map] at h
    exact ⟨by simp only [spreadP]; rw [if_neg (by omega), if_pos h]; rfl, rfl⟩
  · have g1 := of_decide_eq_false (p := r < 1) ‹_›
    have g2 := of_decide_eq_false (p := 3 < r) ‹_›
    have g3 := of_decide_eq_false (p := many < 0) ‹_›
    have g4 := of_decide_eq_false (p := vol < 0) ‹_›
    have g5 := of_decide_eq_false (p := nodes < 1) ‹_›
    have g6 := of_decide_eq_false (p := 64 < nodes) ‹_›
    have h := of_decide_eq_false (p := (((ringP vol nodes live).map (PV.int .i64)).length : Int) < many) ‹_›
    rw [List.length_map] at h
    have hP : spreadP vol r many nodes live = (((ringP vol nodes live).take many.toNat).map fun n => (r, n), 0) := by simp only [spreadP]; rw [if_neg (by omega), if_neg h]
    have hlen := ringP_len vol nodes live
    rw [hP]
    generalize ringP vol nodes live = xs at h hlen ⊢
    refine sat_loopW (fun i : Nat => [(1, .int .i64 r), (2, .int .i64 many), (12, .sl .sh 1 (xs.map (.int .i64))), (13, .sl .ow 2 (((xs.take i).map fun n => (r, n)).map plc)), (14, .int .i64 i)]) (fun _ => σ) (fun i => i ≤ many.toNat) (fun i => many.toNat - i) 0 (Nat.zero_le _) ?_ rfl ?_
    · (repeat' (first | exact trivial | exact Wk.same _ | refine ⟨?_, ?_⟩))
    intro i hi
    have hL : (((xs.take i).map fun n => (r, n)).map plc).length ≤ 64 := by simp; omega
    repeat' (first | (apply og_ops; (first | (apply og_move; (first | (apply op_take (d := 50) (.inr rfl); (focus ((conv => lhs; whnf); try exact rfl)); exact rfl; exact ltn rfl) | (apply op_move (tt := tt); (focus ((conv => lhs; whnf); try exact rfl)); exact rfl))) | (apply og_assign; (first | (apply op_take (.inl rfl); (focus ((conv => lhs; whnf); try exact rfl)); exact rfl; exact ltn rfl) | (apply op_assign (tt := tt); (focus ((conv => lhs; whnf); try exact rfl)); exact rfl))) | (apply og_bin; (apply op_bin true tab; (focus ((conv => lhs; whnf; arg 1; whnf; arg 2; whnf); try exact rfl)); (first | exact trivial | (simp only [InR]; omega)); exact rfl)) | (apply og_load; (apply op_load tab; (focus ((conv => lhs; whnf; arg 1; whnf; arg 2; whnf); try skip)); (exact trivial); exact rfl)) | (apply og_callb; (apply op_appendX tab; (focus ((conv => lhs; whnf); try exact rfl)); exact rfl; exact rfl; exact rfl; exact rfl; exact rfl; (focus ((conv => lhs; whnf); try exact rfl)); exact rfl; (simp only [List.length_map, List.length_append, List.length_cons, List.length_nil, List.length_take]; omega); (exact rfl); exact rfl)) | (apply og_indexAddr; (refine op_indexMap (tI := 3) _ tab rfl (by (focus ((conv => lhs; whnf); try exact rfl))) (by (focus ((conv => lhs; whnf); try exact rfl))) rfl (by (omega)) (by (simp only [decide_eq_true_eq, decide_eq_false_iff_not, List.length_map, InR, ne_eq] at *; omega)) (by (focus ((conv => lhs; whnf); try exact rfl))) (ltn rfl) ?_)) | (apply og_build; (apply op_lk; (apply lk_build tab; exact rfl; (focus ((conv => lhs; whnf; arg 1; whnf; arg 2; whnf); try skip))); (intro c h; cases h); exact rfl)) | (apply og_buildSlice; (apply op_buildSliceX .ow tab; exact rfl; (focus ((repeat (apply opvs_cons; (focus ((conv => lhs; whnf); try exact rfl)))); exact opvs_nil)); exact rfl; exact rfl; exact rfl; exact rfl; exact rfl; exact rfl)) | (apply ops_nil))) | (apply og_sat; (first | (apply sat_seq) | (apply sat_region) | (apply sat_cond; exact (rfl : _ = PV.bool _); all_goals intro hb) | (apply sat_skip) | (apply sat_ret) | (apply sat_block) | (apply sat_exit))) | (apply pe_norm) | (apply pb_norm) | (apply pe_exit) | (apply pb_same))
    · have hlt := of_decide_eq_true (p := (i : Int) < many) ‹_›
      have hil : i < xs.length := by omega
      have e1 : xs.getD i default = xs[i] := by simp [List.getD, hil]
      refine ⟨i + 1, by omega, by omega, ?_, rfl⟩
      rw [List.take_succ_eq_append_getElem hil, ← e1]
      (repeat' (first | exact trivial | exact Wk.same _ | (refine Wk.eq ?_; (conv => rhs; whnf); simp; rfl) | refine ⟨?_, ?_⟩))
    · have hlt := of_decide_eq_false (p := (i : Int) < many) ‹_›
      have e : i = many.toNat := by omega
      (change fnPost _ _ _ _ _ _ _; apply fn_end2; (exact .inr rfl); exact rfl; (focus ((conv => lhs; whnf); try exact rfl)); (focus ((conv => lhs; whnf); try exact rfl)); exact Wk.same _; exact Wk.same _; exact rfl; exact rfl; exact (List.append_nil _).symm; exact Nat.le_refl _; exact trivial; exact trivial; exact hso)
      rw [← e]
      exact ⟨rfl, rfl⟩

theorem spread_sat (vol r many nodes : Int) (live : List Bool) (σ : Sto) : SatCall Try.prog 45 [.int .i64 vol, .int .i64 r, .int .i64 many, .int .i64 nodes, .sl .sh 1 (live.map .bool)] σ fun x σ' =>
    x = .tup [.sl .sh 2 ((spreadP vol r many nodes live).1.map plc), .int .i64 (spreadP vol r many nodes live).2] ∧ σ' = σ := by
  refine sat_fn tab Try.func45 rfl (Nat.le_of_ble_eq_true rfl) (by decide) fun hso => ?_
  repeat' (first | (apply og_ops; (first | (apply og_guard; (first | (apply ops_guard_t; exact (rfl : _ = some _); exact (rfl : _ = PV.bool _); (assumption)) | (apply ops_guard_f'; exact (rfl : _ = some _); exact (rfl : _ = PV.bool _); (first | exact rfl | assumption); exact ltn rfl) | (apply ops_gsplit; exact (rfl : _ = some _); exact (rfl : _ = PV.bool _); all_goals intro hb))) | (apply og_move; (apply op_move (tt := tt); (focus ((conv => lhs; whnf); try exact rfl)); exact rfl)) | (apply og_assign; (first | (apply op_nil (tt := tt); exact rfl; exact ltn rfl) | (apply op_take (.inl rfl); (focus ((conv => lhs; whnf); try exact rfl)); exact rfl; exact ltn rfl) | (apply op_assign (tt := tt); (focus ((conv => lhs; whnf); try exact rfl)); exact rfl))) | (apply og_callv; (first | (refine op_callP (tt := tt) cal68 (region_sat _ _) rfl rfl rfl rfl rfl ?_) | (refine op_callP (tt := tt) cal69 (may_sat _ _) rfl rfl rfl rfl rfl ?_) | (refine op_callP (tt := tt) cal70 (Ring_sat _ _ _ _) rfl rfl rfl rfl rfl ?_))) | (apply og_bin; (apply op_bin true tab; (focus ((conv => lhs; whnf; arg 1; whnf; arg 2; whnf); try exact rfl)); (exact trivial); exact rfl)) | (apply og_pick; (apply op_pick (tt := tt); exact (rfl : _ = PV.bool _); (first | refine .inl ⟨rfl, ?_⟩ | refine .inl ⟨by assumption, ?_⟩ | refine .inr ⟨by assumption, ?_⟩); (focus ((conv => lhs; whnf); try exact rfl)); exact ltn rfl)) | (apply og_callb; (apply op_len tab; (focus ((conv => lhs; whnf; arg 1; whnf; arg 2; whnf); try exact rfl)); (exact trivial); exact rfl)) | (apply og_un; (apply op_un (tt := tt) true; (focus ((conv => lhs; whnf; arg 1; whnf; arg 2; whnf); try exact rfl)); (exact trivial); exact rfl)) | (apply og_slice; (apply op_lk; (apply lk_sliceM_h _ tab; exact rfl; (focus ((conv => lhs; whnf); try exact rfl)); exact rfl; (focus ((conv => lhs; whnf); try exact rfl)); (simp only [decide_eq_true_eq, decide_eq_false_iff_not, List.length_map, InR, ne_eq] at *; omega)); (intro c h; cases h); exact rfl)) | (apply ops_nil))) | (apply og_sat; (first | (apply sat_seq) | (apply sat_region) | (apply sat_cond_t; exact rfl; (exact rfl)) | (apply sat_cond; exact (rfl : _ = PV.bool _); all_goals intro hb) | (apply sat_skip) | (apply sat_ret) | (apply sat_block))) | (apply pe_norm) | (apply pe_ret))
  · (change fnPost _ _ _ _ _ _ _; apply fn_end2; (exact .inr rfl); exact rfl; (focus ((conv => lhs; whnf); try exact rfl)); (focus ((conv => lhs; whnf); try exact rfl)); (exact Wk.sh); (exact Wk.same _); exact rfl; exact rfl; exact (List.append_nil _).symm; exact Nat.le_refl _; exact trivial; exact trivial; exact hso)
    have h : ¬ (1 ≤ r ∧ r ≤ 3) := ndt ‹_›
    exact ⟨by simp only [spreadP]; rw [if_pos (by omega)]; rfl, rfl⟩
  · (change fnPost _ _ _ _ _ _ _; apply fn_end2; (exact .inr rfl); exact rfl; (focus ((conv => lhs; whnf); try exact rfl)); (focus ((conv => lhs; whnf); try exact rfl)); (exact Wk.sh); (exact Wk.same _); exact rfl; exact rfl; exact (List.append_nil _).symm; exact Nat.le_refl _; exact trivial; exact trivial; exact hso)
    have h := of_decide_eq_true (p := many < 0) ‹_›
    exact ⟨by simp only [spreadP]; rw [if_pos (by omega)]; rfl, rfl⟩
  · (change fnPost _ _ _ _ _ _ _; apply fn_end2; (exact .inr rfl); exact rfl; (focus ((conv => lhs; whnf); try exact rfl)); (focus ((conv => lhs; whnf); try exact rfl)); (exact Wk.sh); (exact Wk.same _); exact rfl; exact rfl; exact (List.append_nil _).symm; exact Nat.le_refl _; exact trivial; exact trivial; exact hso)
    have h := of_decide_eq_true (p := vol < 0) ‹_›
    exact ⟨by simp only [spreadP]; rw [if_pos (by omega)]; rfl, rfl⟩
  · (change fnPost _ _ _ _ _ _ _; apply fn_end2; (exact .inr rfl); exact rfl; (focus ((conv => lhs; whnf); try exact rfl)); (focus ((conv => lhs; whnf); try exact rfl)); (exact Wk.sh); (exact Wk.same _); exact rfl; exact rfl; exact (List.append_nil _).symm; exact Nat.le_refl _; exact trivial; exact trivial; exact hso)
    have h : ¬ (1 ≤ nodes ∧ nodes ≤ 64) := ndt ‹_›
    exact ⟨by simp only [spreadP]; rw [if_pos (by omega)]; rfl, rfl⟩
  · (change fnPost _ _ _ _ _ _ _; apply fn_end2; (exact .inr rfl); exact rfl; (focus ((conv => lhs; whnf); try exact rfl)); (focus ((conv => lhs; whnf); try exact rfl)); (exact Wk.sh); (exact Wk.same _); exact rfl; exact rfl; exact (List.append_nil _).symm; exact Nat.le_refl _; exact trivial; exact trivial; exact hso)
    have g1 : (1 ≤ r ∧ r ≤ 3) := ndf ‹_›
    have g2 : (1 ≤ nodes ∧ nodes ≤ 64) := ndf ‹_›
    have g3 := of_decide_eq_false (p := many < 0) ‹_›
    have g4 := of_decide_eq_false (p := vol < 0) ‹_›
    have h := of_decide_eq_true (p := (((ringP vol nodes live).map (PV.int .i64)).length : Int) < many) ‹_›
    rw [List.length_map] at h
    exact ⟨by simp only [spreadP]; rw [if_neg (by omega), if_pos h]; rfl, rfl⟩
  · have g1 : (1 ≤ r ∧ r ≤ 3) := ndf ‹_›
    have g2 : (1 ≤ nodes ∧ nodes ≤ 64) := ndf ‹_›
    have g3 := of_decide_eq_false (p := many < 0) ‹_›
    have g4 := of_decide_eq_false (p := vol < 0) ‹_›
    have h := of_decide_eq_false (p := (((ringP vol nodes live).map (PV.int .i64)).length : Int) < many) ‹_›
    rw [List.length_map] at h
    have hP : spreadP vol r many nodes live = (((ringP vol nodes live).take many.toNat).map fun n => (r, n), 0) := by simp only [spreadP]; rw [if_neg (by omega), if_neg h]
    have hlen := ringP_len vol nodes live
    rw [hP]
    generalize ringP vol nodes live = xs at h hlen ⊢
    generalize hys : xs.take many.toNat = ys
    have hyl : ys.length ≤ 64 := by rw [← hys]; simp; omega
    refine sat_loopW (fun i : Nat => [(1, .int .i64 r), (42, .sl .sh 1 (ys.map (.int .i64))), (43, .int .i64 ys.length), (13, .sl .ow 2 (((ys.take i).map fun n => (r, n)).map plc)), (44, .int .i64 i)]) (fun _ => σ) (fun i => i ≤ ys.length) (fun i => ys.length - i) 0 (Nat.zero_le _) ?_ rfl ?_
    · (repeat' (first | exact trivial | exact Wk.same _ | (refine Wk.eq ?_; (conv => rhs; whnf); simp <;> fail) | refine ⟨?_, ?_⟩))
    intro i hi
    have hL : (((ys.take i).map fun n => (r, n)).map plc).length ≤ 64 := by simp; omega
    repeat' (first | (apply og_ops; (first | (apply og_move; (first | (apply op_take (d := 48) (.inr rfl); (focus ((conv => lhs; whnf); try exact rfl)); exact rfl; exact ltn rfl) | (apply op_move (tt := tt); (focus ((conv => lhs; whnf); try exact rfl)); exact rfl))) | (apply og_assign; (first | (apply op_take (.inl rfl); (focus ((conv => lhs; whnf); try exact rfl)); exact rfl; exact ltn rfl) | (apply op_assign (tt := tt); (focus ((conv => lhs; whnf); try exact rfl)); exact rfl))) | (apply og_bin; (apply op_bin true tab; (focus ((conv => lhs; whnf; arg 1; whnf; arg 2; whnf); try exact rfl)); (first | exact trivial | (simp only [InR]; omega)); exact rfl)) | (apply og_load; (apply op_load tab; (focus ((conv => lhs; whnf; arg 1; whnf; arg 2; whnf); try skip)); (exact trivial); exact rfl)) | (apply og_callb; (apply op_appendX tab; (focus ((conv => lhs; whnf); try exact rfl)); exact rfl; exact rfl; exact rfl; exact rfl; exact rfl; (focus ((conv => lhs; whnf); try exact rfl)); exact rfl; (simp only [List.length_map, List.length_append, List.length_cons, List.length_nil, List.length_take]; omega); (exact rfl); exact rfl)) | (apply og_indexAddr; (refine op_indexMap (tI := 3) _ tab rfl (by (focus ((conv => lhs; whnf); try exact rfl))) (by (focus ((conv => lhs; whnf); try exact rfl))) rfl (by (omega)) (by (simp only [decide_eq_true_eq, decide_eq_false_iff_not, List.length_map, InR, ne_eq] at *; omega)) (by (focus ((conv => lhs; whnf); try exact rfl))) (ltn rfl) ?_)) | (apply og_build; (apply op_lk; (apply lk_build tab; exact rfl; (focus ((conv => lhs; whnf; arg 1; whnf; arg 2; whnf); try skip))); (intro c h; cases h); exact rfl)) | (apply og_buildSlice; (apply op_buildSliceX .ow tab; exact rfl; (focus ((repeat (apply opvs_cons; (focus ((conv => lhs; whnf); try exact rfl)))); exact opvs_nil)); exact rfl; exact rfl; exact rfl; exact rfl; exact rfl; exact rfl)) | (apply ops_nil))) | (apply og_sat; (first | (apply sat_seq) | (apply sat_region) | (apply sat_cond; exact (rfl : _ = PV.bool _); all_goals intro hb) | (apply sat_skip) | (apply sat_ret) | (apply sat_block) | (apply sat_exit))) | (apply pe_norm) | (apply pb_norm) | (apply pe_exit) | (apply pb_same))
    · have hlt := of_decide_eq_true (p := (i : Int) < (ys.length : Int)) ‹_›
      have hil : i < ys.length := by omega
      have e1 : ys.getD i default = ys[i] := by simp [List.getD, hil]
      refine ⟨i + 1, by omega, by omega, ?_, rfl⟩
      rw [List.take_succ_eq_append_getElem hil, ← e1]
      (repeat' (first | exact trivial | exact Wk.same _ | (refine Wk.eq ?_; (conv => rhs; whnf); simp; rfl) | refine ⟨?_, ?_⟩))
    · have hlt := of_decide_eq_false (p := (i : Int) < (ys.length : Int)) ‹_›
      have e : i = ys.length := by omega
      (change fnPost _ _ _ _ _ _ _; apply fn_end2; (exact .inr rfl); exact rfl; (focus ((conv => lhs; whnf); try exact rfl)); (focus ((conv => lhs; whnf); try exact rfl)); (exact Wk.same _); (exact Wk.same _); exact rfl; exact rfl; exact (List.append_nil _).symm; exact Nat.le_refl _; exact trivial; exact trivial; exact hso)
      rw [e, List.take_length]
      exact ⟨rfl, rfl⟩

end Go.Proofs.Ytenmnbjhebmpjaa.Pv
