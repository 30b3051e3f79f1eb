/- Package site: the ring, the third region. -/
import Derived.Test.YtenmnbjhebmpjaaTy
import Derived.Test.YtenmnbjhebmpjaaEq
import Derived.Test.YtenmnbjhebmpjaaPvM3
namespace Go.Proofs.Ytenmnbjhebmpjaa.Pv
open Go
set_option linter.unusedVariables false
set_option linter.unusedSimpArgs false
set_option maxRecDepth 100000

theorem region_sat (r : Int) (σ : Sto) : SatCall Try.prog 68 [.int .i64 r] σ fun x σ' => x = .bool (decide (1 ≤ r ∧ r ≤ 3)) ∧ σ' = σ := by
  refine sat_fn tab Try.func68 rfl (Nat.le_of_ble_eq_true rfl) (by decide) fun hso => ?_
  repeat' (first | (apply og_ops; (first | (apply og_guard; (first | (apply ops_guard_t; exact (rfl : _ = some _); exact (rfl : _ = PV.bool _); (assumption)) | (apply ops_guard_f'; exact (rfl : _ = some _); exact (rfl : _ = PV.bool _); (assumption); exact ltn rfl) | (apply ops_gsplit; exact (rfl : _ = some _); exact (rfl : _ = PV.bool _); all_goals intro hb))) | (apply og_move; (apply op_move (tt := tt); (focus ((conv => lhs; whnf); try exact rfl)); exact rfl)) | (apply og_assign; (apply op_assign (tt := tt); (focus ((conv => lhs; whnf); try exact rfl)); exact rfl)) | (apply og_bin; (apply op_bin true tab; (focus ((conv => lhs; whnf; arg 1; whnf; arg 2; whnf); try exact rfl)); (exact trivial); exact rfl)) | (apply og_pick; (apply op_pick (tt := tt); exact (rfl : _ = PV.bool _); (first | refine .inl ⟨by assumption, ?_⟩ | refine .inr ⟨by assumption, ?_⟩); (focus ((conv => lhs; whnf); try exact rfl)); exact ltn rfl)) | (apply ops_nil))) | (apply og_sat; (first | (apply sat_seq) | (apply sat_region) | (apply sat_ret))) | (apply pe_norm))
  all_goals (change fnPost _ _ _ _ _ _ _; apply fn_end1; (exact .inr rfl); exact rfl; (focus ((conv => lhs; whnf); try exact rfl)); exact Wk.same _; exact rfl; exact (List.append_nil _).symm; exact Nat.le_refl _; exact trivial; exact hso)
  all_goals exact ⟨by first | (simp_all; done) | (simp_all; omega), rfl⟩

theorem may_sat (r : Int) (σ : Sto) : SatCall Try.prog 69 [.int .i64 r] σ fun x σ' => x = .bool (decide (1 ≤ r ∧ r ≤ 64)) ∧ σ' = σ := by
  refine sat_fn tab Try.func69 rfl (Nat.le_of_ble_eq_true rfl) (by decide) fun hso => ?_
  repeat' (first | (apply og_ops; (first | (apply og_guard; (first | (apply ops_guard_t; exact (rfl : _ = some _); exact (rfl : _ = PV.bool _); (assumption)) | (apply ops_guard_f'; exact (rfl : _ = some _); exact (rfl : _ = PV.bool _); (assumption); exact ltn rfl) | (apply ops_gsplit; exact (rfl : _ = some _); exact (rfl : _ = PV.bool _); all_goals intro hb))) | (apply og_move; (apply op_move (tt := tt); (focus ((conv => lhs; whnf); try exact rfl)); exact rfl)) | (apply og_assign; (apply op_assign (tt := tt); (focus ((conv => lhs; whnf); try exact rfl)); exact rfl)) | (apply og_bin; (apply op_bin true tab; (focus ((conv => lhs; whnf; arg 1; whnf; arg 2; whnf); try exact rfl)); (exact trivial); exact rfl)) | (apply og_pick; (apply op_pick (tt := tt); exact (rfl : _ = PV.bool _); (first | refine .inl ⟨by assumption, ?_⟩ | refine .inr ⟨by assumption, ?_⟩); (focus ((conv => lhs; whnf); try exact rfl)); exact ltn rfl)) | (apply ops_nil))) | (apply og_sat; (first | (apply sat_seq) | (apply sat_region) | (apply sat_ret))) | (apply pe_norm))
  all_goals (change fnPost _ _ _ _ _ _ _; apply fn_end1; (exact .inr rfl); exact rfl; (focus ((conv => lhs; whnf); try exact rfl)); exact Wk.same _; exact rfl; exact (List.append_nil _).symm; exact Nat.le_refl _; exact trivial; exact hso)
  all_goals exact ⟨by first | (simp_all; done) | (simp_all; omega), rfl⟩

def livesP (n : Int) (live : List Bool) : Bool := decide (0 ≤ n ∧ n < live.length) && live.getD n.toNat default

theorem lives_sat (n : Int) (live : List Bool) (σ : Sto) : SatCall Try.prog 86 [.int .i64 n, .sl .sh 1 (live.map .bool)] σ fun x σ' => x = .bool (livesP n live) ∧ σ' = σ := by
  refine sat_fn tab Try.func86 rfl (Nat.le_of_ble_eq_true rfl) (by decide) fun hso => ?_
  repeat' (first | (apply og_ops; (first | (apply og_guard; (first | (apply ops_guard_t; exact (rfl : _ = some _); exact (rfl : _ = PV.bool _); (assumption)) | (apply ops_guard_f'; exact (rfl : _ = some _); exact (rfl : _ = PV.bool _); (first | exact rfl | assumption); exact ltn rfl) | (apply ops_gsplit; exact (rfl : _ = some _); exact (rfl : _ = PV.bool _); all_goals intro hb))) | (apply og_move; (apply op_move (tt := tt); (focus ((conv => lhs; whnf); try exact rfl)); exact rfl)) | (apply og_assign; (apply op_assign (tt := tt); (focus ((conv => lhs; whnf); try exact rfl)); exact rfl)) | (apply og_bin; (apply op_bin true tab; (focus ((conv => lhs; whnf; arg 1; whnf; arg 2; whnf); try exact rfl)); (exact trivial); exact rfl)) | (apply og_pick; (apply op_pick (tt := tt); exact (rfl : _ = PV.bool _); (first | refine .inr ⟨rfl, ?_⟩ | refine .inl ⟨by assumption, ?_⟩ | refine .inr ⟨by assumption, ?_⟩); (focus ((conv => lhs; whnf); try exact rfl)); exact ltn rfl)) | (apply og_load; (apply op_load tab; (focus ((conv => lhs; whnf; arg 1; whnf; arg 2; whnf); try skip)); (exact trivial); exact rfl)) | (apply og_callb; (apply op_len tab; (focus ((conv => lhs; whnf; arg 1; whnf; arg 2; whnf); try exact rfl)); (exact trivial); exact rfl)) | (apply og_indexAddr; (refine op_indexMap (tI := 3) _ tab rfl (by (focus ((conv => lhs; whnf); try exact rfl))) (by (focus ((conv => lhs; whnf); try exact rfl))) rfl (by (simp only [decide_eq_true_eq, decide_eq_false_iff_not, List.length_map, InR, ne_eq] at *; omega)) (by (simp only [decide_eq_true_eq, decide_eq_false_iff_not, List.length_map, InR, ne_eq] at *; omega)) (by (focus ((conv => lhs; whnf); try exact rfl))) (ltn rfl) ?_)) | (apply ops_nil))) | (apply og_sat; (first | (apply sat_seq) | (apply sat_region) | (apply sat_ret))) | (apply pe_norm))
  all_goals (change fnPost _ _ _ _ _ _ _; apply fn_end1; (exact .inr rfl); exact rfl; (focus ((conv => lhs; whnf); try exact rfl)); exact Wk.same _; exact rfl; exact (List.append_nil _).symm; exact Nat.le_refl _; exact trivial; exact hso)
  all_goals refine ⟨?_, rfl⟩
  all_goals simp only [decide_eq_true_eq, decide_eq_false_iff_not, List.length_map] at *
  all_goals simp [livesP, *] <;> omega

def ringStep (vol nodes : Int) (i : Nat) : Int := Int.tmod (Int.tmod vol nodes + i) nodes
def ringTo (vol nodes : Int) (live : List Bool) (j : Nat) : List Int := ((List.range j).map (ringStep vol nodes)).filter (livesP · live)
def ringP (vol nodes : Int) (live : List Bool) : List Int := if vol < 0 ∨ ¬ (1 ≤ nodes ∧ nodes ≤ 64) then [] else ringTo vol nodes live nodes.toNat

theorem ringTo_succ (vol nodes : Int) (live : List Bool) (j : Nat) : ringTo vol nodes live (j + 1) = ringTo vol nodes live j ++ if livesP (ringStep vol nodes j) live then [ringStep vol nodes j] else [] := by
  simp only [ringTo, List.range_succ, List.map_append, List.filter_append, List.map_cons, List.map_nil]
  congr 1
  cases h : livesP (ringStep vol nodes j) live <;> simp [h]

theorem ringTo_pre (vol nodes : Int) (live : List Bool) {j n : Nat} (h : j ≤ n) : ∃ suf, ringTo vol nodes live n = ringTo vol nodes live j ++ suf := by
  induction n with
  | zero => have : j = 0 := by omega
            subst this; exact ⟨[], by simp⟩
  | succ n ih =>
    by_cases e : j = n + 1
    · subst e; exact ⟨[], by simp⟩
    · obtain ⟨suf, hs⟩ := ih (by omega)
      exact ⟨_, by rw [ringTo_succ, hs, List.append_assoc]⟩

theorem ring1_sat (i pv pn pl : Nat) (vol nodes : Int) (live : List Bool) (σ : Sto) (J : List Int → Sto → Prop) (Jx : Sto → Prop)
    (hkeep : ∀ k s, J k s → s[pv]? = some (.cells [.int .i64 vol]) ∧ s[pn]? = some (.cells [.int .i64 nodes]) ∧ s[pl]? = some (.cells [.sl .sh 1 (live.map .bool)]))
    (hy : ∀ pre v suf s, ringP vol nodes live = pre ++ v :: suf → J pre s → SatYield Try.prog i [.int .i64 v] s fun b s' => (b = true ∧ J (pre ++ [v]) s') ∨ (b = false ∧ Jx s'))
    (h0 : J [] σ) : SatCall Try.prog 85 [.yld i, .ptr pv 0, .ptr pn 0, .ptr pl 0] σ fun x s' => J (ringP vol nodes live) s' ∨ Jx s' := by
  refine sat_fn tab Try.func85 rfl (Nat.le_of_ble_eq_true rfl) (by decide) fun hso => ?_
  obtain ⟨k1, k2, k3⟩ := hkeep _ _ h0
  repeat' (first | (apply og_ops; (first | (apply og_guard; (first | (apply ops_guard_t; exact (rfl : _ = some _); exact (rfl : _ = PV.bool _); (assumption)) | (apply ops_guard_f'; exact (rfl : _ = some _); exact (rfl : _ = PV.bool _); (assumption); exact ltn rfl) | (apply ops_gsplit; exact (rfl : _ = some _); exact (rfl : _ = PV.bool _); all_goals intro hb))) | (apply og_move; (apply op_move (tt := tt); (focus ((conv => lhs; whnf); try exact rfl)); exact rfl)) | (apply og_callv; (refine op_callP (tt := tt) cal69 (may_sat _ _) rfl rfl rfl rfl rfl ?_)) | (apply og_bin; (apply op_bin true tab; (focus ((conv => lhs; whnf; arg 1; whnf; arg 2; whnf); try exact rfl)); (exact trivial); exact rfl)) | (apply og_pick; (apply op_pick (tt := tt); exact (rfl : _ = PV.bool _); (first | refine .inl ⟨by assumption, ?_⟩ | refine .inr ⟨by assumption, ?_⟩); (focus ((conv => lhs; whnf); try exact rfl)); exact ltn rfl)) | (apply og_load; (apply op_lk; (apply lk_loadB tab; exact rfl; exact rfl; (assumption); (focus ((conv => lhs; whnf; arg 1; whnf; arg 2; whnf); try skip)); (exact trivial)); (intro c h; cases h); exact rfl)) | (apply og_un; (apply op_un (tt := tt) true; (focus ((conv => lhs; whnf; arg 1; whnf; arg 2; whnf); try exact rfl)); (exact trivial); exact rfl)) | (apply ops_nil))) | (apply og_sat; (first | (apply sat_seq) | (apply sat_region) | (apply sat_cond_t; exact rfl; (exact rfl)) | (apply sat_cond; exact (rfl : _ = PV.bool _); all_goals intro hb) | (apply sat_skip) | (apply sat_ret) | (apply sat_block))) | (apply pe_norm) | (apply pe_ret))
  · (change fnPost _ _ _ _ _ _ _; apply fn_end0; (exact .inr rfl); exact rfl)
    left
    simp only [decide_eq_true_eq, decide_eq_false_iff_not] at *
    have : ringP vol nodes live = [] := by simp [ringP, *]
    rw [this]; exact h0
  · (change fnPost _ _ _ _ _ _ _; apply fn_end0; (exact .inr rfl); exact rfl)
    left
    simp only [decide_eq_true_eq, decide_eq_false_iff_not, Bool.not_eq_true'] at *
    have : ringP vol nodes live = [] := by simp only [ringP]; rw [if_pos (.inr ‹_›)]
    rw [this]; exact h0
  · simp only [decide_eq_true_eq, decide_eq_false_iff_not, Bool.not_eq_false'] at *
    rename_i hv
    have hP : ringP vol nodes live = ringTo vol nodes live nodes.toNat := by simp only [ringP]; rw [if_neg (by omega)]
    refine sat_loopW (fun x : Nat × Sto => [(0, .yld i), (1, .ptr pv 0), (2, .ptr pn 0), (3, .ptr pl 0), (14, .int .i64 nodes), (15, .int .i64 x.1)]) (·.2) (fun x => x.1 ≤ nodes.toNat ∧ J (ringTo vol nodes live x.1) x.2) (fun x => nodes.toNat - x.1) (0, σ)
      ⟨Nat.zero_le _, h0⟩ ⟨Wk.same _, Wk.same _, Wk.same _, Wk.same _, Wk.same _, Wk.same _, trivial⟩ rfl ?_
    rintro ⟨j, s⟩ ⟨hj, hJ⟩
    simp only at hj hJ ⊢
    obtain ⟨q1, q2, q3⟩ := hkeep _ _ hJ
    have hm1 : 0 ≤ vol.tmod nodes := Int.tmod_nonneg _ (by omega)
    have hm2 : vol.tmod nodes < nodes := Int.tmod_lt_of_pos _ (by omega)
    repeat' (first | (apply og_ops; (first | (apply og_guard; (first | (apply ops_guard_t; exact (rfl : _ = some _); exact (rfl : _ = PV.bool _); (assumption)) | (apply ops_guard_f'; exact (rfl : _ = some _); exact (rfl : _ = PV.bool _); (assumption); exact ltn rfl) | (apply ops_gsplit; exact (rfl : _ = some _); exact (rfl : _ = PV.bool _); all_goals intro hb))) | (apply og_move; (apply op_move (tt := tt); (focus ((conv => lhs; whnf); try exact rfl)); exact rfl)) | (apply og_assign; (apply op_assign (tt := tt); (focus ((conv => lhs; whnf); try exact rfl)); exact rfl)) | (apply og_callv; (refine op_callP (tt := tt) cal86 (lives_sat _ _ _) rfl rfl rfl rfl rfl ?_)) | (apply og_bin; (apply op_bin true tab; (focus ((conv => lhs; whnf; arg 1; whnf; arg 2; whnf); try exact rfl)); (first | exact trivial | omega | (simp only [InR]; omega)); exact rfl)) | (apply og_pick; (apply op_pick (tt := tt); exact (rfl : _ = PV.bool _); (refine .inr ⟨by assumption, ?_⟩); (focus ((conv => lhs; whnf); try exact rfl)); exact ltn rfl)) | (apply og_load; (apply op_lk; (apply lk_loadB tab; exact rfl; exact rfl; (assumption); (focus ((conv => lhs; whnf; arg 1; whnf; arg 2; whnf); try skip)); (exact trivial)); (intro c h; cases h); exact rfl)) | (apply ops_nil))) | (apply og_sat; (first | (apply sat_seq) | (apply sat_region) | (apply sat_cond_f; exact rfl; (exact rfl)) | (apply sat_cond; exact (rfl : _ = PV.bool _); all_goals intro hb) | (apply sat_skip) | (apply sat_block) | (apply sat_exit) | (apply sat_drawC (k := 6); exact mixed; decide +kernel; decide +kernel))) | (apply pe_norm) | (apply pb_norm) | (apply pe_exit) | (apply pb_same) | (apply og_dd; (first | (apply dd_lk; (first | (apply lg_move; (apply lk_move (tt := tt); (focus ((conv => lhs; whnf); try exact rfl)))) | (apply lg_bin; (apply lk_bin true tab; (focus ((conv => lhs; whnf; arg 1; whnf; arg 2; whnf); try exact rfl)); (first | omega | (simp only [InR]; omega)))) | (apply lg_load; (apply lk_loadB tab; exact rfl; exact rfl; (assumption); (focus ((conv => lhs; whnf; arg 1; whnf; arg 2; whnf); try skip)); (exact trivial)))); exact rfl; exact rfl) | (apply dd_nil))))
    · have hlt : (j : Int) < nodes := of_decide_eq_true ‹_›
      have hstep : livesP (ringStep vol nodes j) live = true := ‹_›
      have hto := ringTo_succ vol nodes live j
      rw [hstep] at hto
      simp only [if_true] at hto
      obtain ⟨suf, hs⟩ := ringTo_pre vol nodes live (j := j + 1) (n := nodes.toNat) (by omega)
      refine op_yield (tt := tt) (i := i) rfl rfl (by decide) rfl (hy (ringTo vol nodes live j) (ringStep vol nodes j) suf s (by rw [hP, hs, hto, List.append_assoc]; rfl) hJ) (ltn rfl) ?_
      rintro b s' (⟨rfl, hJ'⟩ | ⟨rfl, hJ'⟩)
      · rw [← hto] at hJ'
        repeat' (first | (apply og_ops; (first | (apply og_guard; (apply ops_guard_t; exact (rfl : _ = some _); exact (rfl : _ = PV.bool _); (assumption))) | (apply og_move; (apply op_move (tt := tt); (focus ((conv => lhs; whnf); try exact rfl)); exact rfl)) | (apply og_bin; (apply op_bin true tab; (focus ((conv => lhs; whnf; arg 1; whnf; arg 2; whnf); try exact rfl)); (simp only [InR]; omega); exact rfl)) | (apply og_pick; (apply op_pick (tt := tt); exact (rfl : _ = PV.bool _); (refine .inl ⟨by assumption, ?_⟩); (focus ((conv => lhs; whnf); try exact rfl)); exact ltn rfl)) | (apply og_un; (apply op_un (tt := tt) true; (focus ((conv => lhs; whnf; arg 1; whnf; arg 2; whnf); try exact rfl)); (exact trivial); exact rfl)) | (apply ops_nil))) | (apply og_sat; (first | (apply sat_region) | (apply sat_cond_f; exact rfl; (exact rfl)) | (apply sat_skip))) | (apply pe_norm) | (apply pb_norm))
        refine ⟨(j + 1, s'), ⟨by simp only; omega, hJ'⟩, by simp only; omega, ?_, rfl⟩
        (repeat' (first | exact trivial | exact Wk.same _ | refine ⟨?_, ?_⟩))
      · repeat' (first | (apply og_ops; (first | (apply og_guard; (apply ops_guard_t; exact (rfl : _ = some _); exact (rfl : _ = PV.bool _); (assumption))) | (apply og_pick; (apply op_pick (tt := tt); exact (rfl : _ = PV.bool _); (refine .inl ⟨by assumption, ?_⟩); (focus ((conv => lhs; whnf); try exact rfl)); exact ltn rfl)) | (apply og_un; (apply op_un (tt := tt) true; (focus ((conv => lhs; whnf; arg 1; whnf; arg 2; whnf); try exact rfl)); (exact trivial); exact rfl)) | (apply ops_nil))) | (apply og_sat; (first | (apply sat_cond_t; exact rfl; (exact rfl)) | (apply sat_ret))) | (apply pe_norm) | (apply pe_ret) | (apply pb_ret))
        (change fnPost _ _ _ _ _ _ _; apply fn_end0; (exact .inr rfl); exact rfl)
        exact .inr hJ'
    · have hlt : (j : Int) < nodes := of_decide_eq_true ‹_›
      refine ⟨(j + 1, s), ⟨by simp only; omega, ?_⟩, by simp only; omega, ?_, rfl⟩
      · have hstep : livesP (ringStep vol nodes j) live = false := ‹_›
        simp only [ringTo_succ, hstep]
        simpa using hJ
      · (repeat' (first | exact trivial | exact Wk.same _ | refine ⟨?_, ?_⟩))
    · (change fnPost _ _ _ _ _ _ _; apply fn_end0; (exact .inl rfl); exact rfl)
      left
      have hlt := of_decide_eq_false (p := (j : Int) < nodes) ‹_›
      have : nodes.toNat = j := by omega
      rw [hP, this]; exact hJ

theorem ring_sat (vol nodes : Int) (live : List Bool) (σ : Sto) : SatCall Try.prog 77 [.int .i64 vol, .int .i64 nodes, .sl .sh 1 (live.map .bool)] σ fun x σ' =>
    x = .fn (.func 85) [] [.ptr (σ.length + 0) 0, .ptr (σ.length + 1) 0, .ptr (σ.length + 2) 0] ∧ σ' = σ ++ [.cells [.int .i64 vol], .cells [.int .i64 nodes], .cells [.sl .sh 1 (live.map .bool)]] := by
  refine sat_fn tab Try.func77 rfl (Nat.le_of_ble_eq_true rfl) (by decide) fun hso => sat_base ?_
  repeat' (first | (apply og_ops; (first | (apply og_assign; (apply op_assign (tt := tt); (focus ((conv => lhs; whnf); try exact rfl)); exact rfl)) | (apply og_makeFunc; (apply op_lk; (apply lk_makeFunc (tt := tt); exact rfl; exact rfl; (focus ((conv => lhs; whnf); try exact rfl))); (intro c h; cases h); exact rfl)) | (apply og_box; (apply op_boxX (tt := tt); (focus ((conv => lhs; whnf); try exact rfl)); exact rfl; (first | exact (rfl : _ = 0) | exact (rfl : _ = 1) | exact (rfl : _ = 2)); exact rfl)) | (apply ops_nil))) | (apply og_sat; (first | (apply sat_seq) | (apply sat_region) | (apply sat_ret))) | (apply pe_norm))
  change fnPost _ _ _ _ _ _ _
  refine fn_endA _ (.fn (.func 85) [] [.ptr (σ.length + 0) 0, .ptr (σ.length + 1) 0, .ptr (σ.length + 2) 0]) (.inr rfl) rfl rfl (Wk.same _) rfl ?_ ⟨rfl, rfl⟩
  simp [PV.lt, ltAll]

theorem ring_seq (vol nodes : Int) (live : List Bool) (pv pn pl : Nat) (σ : Sto) (h1 : σ[pv]? = some (.cells [.int .i64 vol])) (h2 : σ[pn]? = some (.cells [.int .i64 nodes])) (h3 : σ[pl]? = some (.cells [.sl .sh 1 (live.map .bool)])) :
    SatSeq Try.prog 85 [.ptr pv 0, .ptr pn 0, .ptr pl 0] σ (PV.int .i64) (ringP vol nodes live) := fun i J Jx s0 hk hy h0 =>
  ring1_sat i pv pn pl vol nodes live s0 J Jx (fun k s hJ => ⟨hk k s hJ _ _ h1, hk k s hJ _ _ h2, hk k s hJ _ _ h3⟩) hy h0

theorem appendSeq_sat {g : FuncId} {caps : List PV} {σ : Sto} {xs : List Int} (hg : Callable Try.prog g) (hseq : SatSeq Try.prog g caps σ (PV.int .i64) xs) (hlen : xs.length ≤ 1000000) (htup : (caps.all fun p => !p.isTup) = true) :
    SatCall Try.prog 88 [.sl .ow 1 [], .fn (.func g) [] caps] σ fun x σ' => x = .sl .ow 1 (xs.map (.int .i64)) ∧ σ' = σ := by
  refine sat_fn tab Try.func88 rfl (Nat.le_of_ble_eq_true rfl) (by decide) fun hso => sat_base ?_
  repeat' (first | (apply og_ops; (first | (apply og_move; (apply op_move (tt := tt); (focus ((conv => lhs; whnf); try exact rfl)); exact rfl)) | (apply og_assign; (apply op_nil (tt := tt); exact rfl; exact ltn rfl)) | (apply og_box; (apply op_boxTX; (focus ((conv => lhs; whnf); try exact rfl)); exact rfl; (exact (rfl : _ = 0)); exact rfl)) | (apply ops_nil))) | (apply og_sat; (first | (apply sat_seq) | (apply sat_region) | (apply sat_block))) | (apply pe_norm))
  refine sat_range (tt := tt) [(2, .ptr (σ.length + 0) 0)] hg rfl (SubL.at ⟨⟨rfl, rfl⟩, trivial⟩) (by simpa using htup) fun rcd hsz hpar has hbody => ?_
  have hi : (σ ++ ([] ++ [Ent.cells [PV.sl .ow 1 []]])).length = σ.length + 1 := by simp
  refine ⟨fun r s' => s' = σ ++ [.cells [.sl .ow 1 (xs.map (.int .i64))], .loop .ready none rcd [(2, .ptr (σ.length + 0) 0)]], ?_, ?_⟩
  · rw [hi]
    refine (hseq (σ.length + 1) (fun pre s => s = σ ++ [.cells [.sl .ow 1 (pre.map (.int .i64))], .loop .ready none rcd [(2, .ptr (σ.length + 0) 0)]]) (fun _ => False) _ ?_ ?_ (by simp)).mono fun r s' h => h.resolve_right id
    · rintro k s rfl j e he; exact getL he
    · rintro pre v suf s hx rfl
      refine yield_of (getX 1) hsz (by rw [hpar]; rfl) (by rw [hpar]; decide) (by simp [PV.isS]) fun l => ?_
      rw [has, hbody, hpar]
      repeat' (first | (apply og_ops; (first | (apply og_assign; (apply op_assign (tt := tt); (focus ((conv => lhs; whnf); try exact rfl)); exact rfl)) | (apply ops_nil))) | (apply og_sat; (apply sat_region)))
      refine ⟨rfl, rfl, ?_⟩
      rw [setX]
      have hpl : pre.length + 1 ≤ xs.length := by rw [hx]; simp
      repeat' (first | (apply og_ops; (first | (apply og_move; (apply op_move (tt := tt); (focus ((conv => lhs; whnf); try exact rfl)); exact rfl)) | (apply og_load; (apply op_loadTX tab (d := 8); exact rfl; exact rfl; exact rfl; exact rfl; exact rfl; exact rfl; exact rfl)) | (apply og_callb; (apply op_appendX tab; (focus ((conv => lhs; whnf); try exact rfl)); exact rfl; exact rfl; exact rfl; exact rfl; exact rfl; (focus ((conv => lhs; whnf); try exact rfl)); exact rfl; (simp only [List.length_map, List.length_append, List.length_cons, List.length_nil, List.length_take]; omega); (exact rfl); exact rfl)) | (apply og_store; (apply op_storeTX tab; exact rfl; exact rfl; exact rfl; exact rfl; (focus ((conv => lhs; whnf); try exact rfl)); exact rfl; exact rfl; (intro h; cases h))) | (apply og_buildSlice; (apply op_buildSliceX .ow tab; exact rfl; (focus ((repeat (apply opvs_cons; (focus ((conv => lhs; whnf); try exact rfl)))); exact opvs_nil)); exact rfl; exact rfl; exact rfl; exact rfl; exact rfl; exact rfl)) | (apply ops_nil))) | (apply og_sat; (first | (apply sat_region) | (apply sat_block))) | (apply pb_norm))
      refine ⟨getX 1, .inl ⟨rfl, ?_⟩⟩
      rw [setX]
      simp
  · rintro r s' rfl
    rw [hi]
    refine ⟨.ready, none, getX 1, by decide, ?_⟩
    simp only
    rw [setX]
    repeat' (first | (apply og_ops; (first | (apply og_assign; (apply op_take (.inl rfl); (focus ((conv => lhs; whnf); try exact rfl)); exact rfl; exact ltn rfl)) | (apply og_load; (apply op_loadTX tab (d := 12); exact rfl; exact rfl; exact rfl; exact rfl; exact rfl; exact rfl; exact rfl)) | (apply ops_nil))) | (apply og_sat; (first | (apply sat_seq) | (apply sat_region) | (apply sat_ret))) | (apply pe_norm) | (apply pb_norm))
    (change fnPost _ _ _ _ _ _ _; apply fn_end1; (exact .inr rfl); exact rfl; (focus ((conv => lhs; whnf); try exact rfl)); exact Wk.same _; exact rfl; exact rfl; exact Nat.le_refl _; exact trivial; exact hso)
    exact ⟨rfl, rfl⟩

theorem collect_sat {g : FuncId} {caps : List PV} {σ : Sto} {xs : List Int} (hg : Callable Try.prog g) (hseq : SatSeq Try.prog g caps σ (PV.int .i64) xs) (hlen : xs.length ≤ 1000000) (htup : (caps.all fun p => !p.isTup) = true) :
    SatCall Try.prog 82 [.fn (.func g) [] caps] σ fun x σ' => x = .sl .ow 1 (xs.map (.int .i64)) ∧ σ' = σ := by
  refine sat_fn tab Try.func82 rfl (Nat.le_of_ble_eq_true rfl) (by decide) fun hso => ?_
  repeat' (first | (apply og_ops; (first | (apply og_move; (apply op_move (tt := tt); (focus ((conv => lhs; whnf); try exact rfl)); exact rfl)) | (apply og_assign; (apply op_nil (tt := tt); exact rfl; exact ltn rfl)) | (apply ops_nil))) | (apply og_sat; (first | (apply sat_seq) | (apply sat_region))) | (apply pe_norm))
  refine op_callP (tt := tt) cal88 (appendSeq_sat hg hseq hlen htup) rfl rfl rfl rfl rfl ?_
  repeat' (first | (apply og_ops; (first | (apply og_assign; (apply op_take (.inl rfl); (focus ((conv => lhs; whnf); try exact rfl)); exact rfl; exact ltn rfl)) | (apply ops_nil))) | (apply og_sat; (apply sat_ret)) | (apply pe_norm))
  (change fnPost _ _ _ _ _ _ _; apply fn_end1; (exact .inr rfl); exact rfl; (focus ((conv => lhs; whnf); try exact rfl)); exact Wk.same _; exact rfl; exact (List.append_nil _).symm; exact Nat.le_refl _; exact trivial; exact hso)
  exact ⟨rfl, rfl⟩

theorem ringTo_len (vol nodes : Int) (live : List Bool) (j : Nat) : (ringTo vol nodes live j).length ≤ j := by
  refine Nat.le_trans (List.length_filter_le _ _) ?_
  simp

theorem ringP_len (vol nodes : Int) (live : List Bool) : (ringP vol nodes live).length ≤ 64 := by
  unfold ringP
  split
  · simp
  · have := ringTo_len vol nodes live nodes.toNat
    omega

theorem Ring_sat (vol nodes : Int) (live : List Bool) (σ : Sto) : SatCall Try.prog 70 [.int .i64 vol, .int .i64 nodes, .sl .sh 1 (live.map .bool)] σ fun x σ' => x = .sl .ow 1 ((ringP vol nodes live).map (.int .i64)) ∧ σ' = σ := by
  refine sat_fn tab Try.func70 rfl (Nat.le_of_ble_eq_true rfl) (by decide) fun hso => ?_
  repeat' (first | (apply og_ops; (first | (apply og_move; (apply op_move (tt := tt); (focus ((conv => lhs; whnf); try exact rfl)); exact rfl)) | (apply og_assign; (apply op_nil (tt := tt); exact rfl; exact ltn rfl)) | (apply ops_nil))) | (apply og_sat; (first | (apply sat_seq) | (apply sat_region))) | (apply pe_norm))
  refine op_call0 (tt := tt) (hc := ring_sat _ _ _ _) cal77 rfl rfl rfl rfl rfl ?_
  rintro _ _ ⟨rfl, rfl⟩
  refine op_callP (tt := tt) cal82 (collect_sat cal85 (ring_seq vol nodes live _ _ _ _ (getX 0) (getX 1) (getX 2)) (Nat.le_trans (ringP_len _ _ _) (by decide)) rfl) rfl rfl rfl rfl rfl ?_
  repeat' (first | (apply og_ops; (first | (apply og_assign; (apply op_take (.inl rfl); (focus ((conv => lhs; whnf); try exact rfl)); exact rfl; exact ltn rfl)) | (apply ops_nil))) | (apply og_sat; (apply sat_ret)) | (apply pe_norm))
  (change fnPost _ _ _ _ _ _ _; apply fn_end1; (exact .inr rfl); exact rfl; (focus ((conv => lhs; whnf); try exact rfl)); exact Wk.same _; exact rfl; exact rfl; exact Nat.le_refl _; exact trivial; exact hso)
  exact ⟨rfl, rfl⟩

def thirdP (a b : Int) : Int × Int := if (1 ≤ a ∧ a ≤ 3) ∧ (1 ≤ b ∧ b ≤ 3) ∧ a ≠ b then (6 - a - b, 0) else (0, 1)

theorem third_sat (a b : Int) (σ : Sto) : SatCall Try.prog 57 [.int .i64 a, .int .i64 b] σ fun x σ' => x = .tup [.int .i64 (thirdP a b).1, .int .i64 (thirdP a b).2] ∧ σ' = σ := by
  refine sat_fn tab Try.func57 rfl (Nat.le_of_ble_eq_true rfl) (by decide) fun hso => ?_
  repeat' (first | (apply og_ops; (first | (apply og_guard; (first | (apply ops_guard_t; exact (rfl : _ = some _); exact (rfl : _ = PV.bool _); (assumption)) | (apply ops_guard_f'; exact (rfl : _ = some _); exact (rfl : _ = PV.bool _); (first | exact rfl | assumption); exact ltn rfl) | (apply ops_gsplit; exact (rfl : _ = some _); exact (rfl : _ = PV.bool _); all_goals intro hb))) | (apply og_move; (apply op_move (tt := tt); (focus ((conv => lhs; whnf); try exact rfl)); exact rfl)) | (apply og_assign; (apply op_assign (tt := tt); (focus ((conv => lhs; whnf); try exact rfl)); exact rfl)) | (apply og_callv; (refine op_callP (tt := tt) cal68 (region_sat _ _) rfl rfl rfl rfl rfl ?_)) | (apply og_bin; (apply op_bin true tab; (focus ((conv => lhs; whnf; arg 1; whnf; arg 2; whnf); try exact rfl)); (first | exact trivial | (simp [InR] at *; omega)); exact rfl)) | (apply og_pick; (apply op_pick (tt := tt); exact (rfl : _ = PV.bool _); (first | refine .inl ⟨rfl, ?_⟩ | refine .inl ⟨by assumption, ?_⟩ | refine .inr ⟨by assumption, ?_⟩); (focus ((conv => lhs; whnf); try exact rfl)); exact ltn rfl)) | (apply og_un; (apply op_un (tt := tt) true; (focus ((conv => lhs; whnf; arg 1; whnf; arg 2; whnf); try exact rfl)); (exact trivial); exact rfl)) | (apply ops_nil))) | (apply og_sat; (first | (apply sat_seq) | (apply sat_region) | (apply sat_cond_t; exact rfl; (exact rfl)) | (apply sat_cond; exact (rfl : _ = PV.bool _); all_goals intro hb) | (apply sat_skip) | (apply sat_ret))) | (apply pe_norm) | (apply pe_ret))
  all_goals (change fnPost _ _ _ _ _ _ _; apply fn_end2; (exact .inr rfl); exact rfl; (focus ((conv => lhs; whnf); try exact rfl)); (focus ((conv => lhs; whnf); try exact rfl)); exact Wk.same _; exact Wk.same _; exact rfl; exact rfl; exact (List.append_nil _).symm; exact Nat.le_refl _; exact trivial; exact trivial; exact hso)
  all_goals refine ⟨?_, rfl⟩
  all_goals simp only [decide_eq_true_eq, decide_eq_false_iff_not, Bool.not_eq_true', Bool.not_eq_false', beq_iff_eq, beq_eq_false_iff_ne, ne_eq] at *
  · rw [thirdP, if_neg (fun h => by omega)]
  · rw [thirdP, if_neg (fun h => by omega)]
  · rw [thirdP, if_neg (fun h => by omega)]
  · rw [thirdP, if_pos (by omega)]

end Go.Proofs.Ytenmnbjhebmpjaa.Pv
