/- Indexes in the program itself: bytes named, where no name was yet. -/
import Derived.Test.YtbjmafbbjhoddaaLibImpA
import Derived.Test.YtbjmafbbjhoddaaLibImpB
import Derived.Test.YtbjmafbbjhoddaaLibImpE1
namespace Go.Proofs.Ytbjmafbbjhoddaa.Pv
open Go
set_option linter.unusedVariables false
set_option linter.unusedSimpArgs false
set_option maxRecDepth 100000

theorem cloneNm0_sat (σ : Sto) : SatCall Try.prog 102 [.sl .sh 5 (([] : List Nm).map nm)] σ fun r s' => r = .xsl 0 0 5 0 0 ∧ s' = σ := by
  refine sat_fn tab Try.func102 rfl (Nat.le_of_ble_eq_true rfl) (by decide) fun hso => ?_
  repeat' (first | (apply og_ops; (first | (apply og_move; (apply op_move (tt := tt); (focus ((conv => lhs; whnf); try exact rfl)); exact rfl)) | (apply og_assign; (apply op_nilX (tt := tt); exact rfl; exact rfl)) | (apply ops_nil))) | (apply og_sat; (first | (apply sat_seq) | (apply sat_region))) | (apply pe_norm))
  refine op_eqNil (tt := tt) tab rfl rfl rfl ?_
  intro b hb
  cases b
  · repeat' (first | (apply og_ops; (first | (apply og_move; (apply op_move (tt := tt); (focus ((conv => lhs; whnf); try exact rfl)); exact rfl)) | (apply og_buildSlice; (apply op_build0X tab; exact rfl; exact rfl)) | (apply ops_nil))) | (apply og_sat; (first | (apply sat_seq) | (apply sat_region) | (apply sat_cond_f; exact rfl; (exact rfl)) | (apply sat_skip))) | (apply pe_norm))
    refine op_append0 tab rfl rfl rfl rfl rfl rfl (.sl _) rfl ?_
    repeat' (first | (apply og_ops; (first | (apply og_assign; (apply op_assign (tt := tt); (focus ((conv => lhs; whnf); try exact rfl)); exact rfl)) | (apply ops_nil))) | (apply og_sat; (apply sat_ret)) | (apply pe_norm))
    (change fnPost _ _ _ _ _ _ _; apply fn_endN; (exact .inr rfl); (focus (repeat' (first | (apply rr_tmp; (focus ((conv => lhs; whnf); try exact rfl)); (exact Wk.same _)) | exact rr_nil))); exact rfl; (exact (List.append_nil _).symm); exact Nat.le_refl _; (focus (repeat' (first | exact trivial | exact .inl rfl | refine ⟨?_, ?_⟩))); exact hso)
    exact ⟨rfl, rfl⟩
  · repeat' (first | (apply og_ops; (first | (apply og_assign; (apply op_nilX (tt := tt); exact rfl; exact rfl)) | (apply ops_nil))) | (apply og_sat; (first | (apply sat_seq) | (apply sat_region) | (apply sat_cond_t; exact rfl; (exact rfl)) | (apply sat_ret))) | (apply pe_norm) | (apply pe_ret))
    (change fnPost _ _ _ _ _ _ _; apply fn_endN; (exact .inr rfl); (focus (repeat' (first | (apply rr_tmp; (focus ((conv => lhs; whnf); try exact rfl)); (exact Wk.same _)) | exact rr_nil))); exact rfl; (exact (List.append_nil _).symm); exact Nat.le_refl _; (focus (repeat' (first | exact trivial | exact .inl rfl | refine ⟨?_, ?_⟩))); exact hso)
    exact ⟨rfl, rfl⟩

set_option maxHeartbeats 8000000 in
theorem putI_new00 (V : List Vl) (L : List Ss) (c : Cm) (hl : V.length ≤ 1048576) (hnl : ([] : List Nm).length ≤ 1048576) (hpa : ∀ v ∈ V, v.parts.length ≤ 1048576) (ho : 0 ≤ c.off ∧ c.off ≤ 1048576) (hn : 0 ≤ c.n ∧ c.n ≤ 1048576) (hg : beqS c.name ⟨#[]⟩ = false ∧ ¬ volI (⟨V, [], L⟩ : Ix) c.vol < 0 ∧ (V.getD (volI (⟨V, [], L⟩ : Ix) c.vol).toNat default).phase = 1 ∧ ¬ (c.n = 0 ∨ (V.getD (volI (⟨V, [], L⟩ : Ix) c.vol).toNat default).used < c.off + c.n) ∧ nameI (⟨V, [], L⟩ : Ix) c.name < 0 ∧ ([] : List Nm).length < 64) (σ : Sto) : SatCall Try.prog 70 [ix (⟨V, [], L⟩ : Ix), cm c] σ fun r σ' => r = .tup [ix (putX (⟨V, [], L⟩ : Ix) c).1, rp (putX (⟨V, [], L⟩ : Ix) c).2] ∧ σ' = σ := by
  refine sat_fn tab Try.func70 rfl (Nat.le_of_ble_eq_true rfl) (by decide) fun hso => sat_base ?_
  have v1 := vol_sat (⟨V, [], L⟩ : Ix) c.vol hl
  have n1 := name_sat (⟨V, [], L⟩ : Ix) c.name hnl
  obtain ⟨h0', h1, h2, h3, hk, h64⟩ := hg
  unfold putX
  dsimp only
  rw [if_neg (by rw [h0']; decide), if_neg h1, if_neg (fun h => h h2), if_neg h3, if_neg (by omega)]
  have c1 : decide (volI (⟨V, [], L⟩ : Ix) c.vol < 0) = false := decide_eq_false h1
  have i0 : 0 ≤ volI (⟨V, [], L⟩ : Ix) c.vol := by omega
  have i1 : (volI (⟨V, [], L⟩ : Ix) c.vol).toNat < V.length := idxI_ltL (p := (fun v : Vl => v.id == c.vol)) (xs := V) i0
  have hN : putN (⟨V, [], L⟩ : Ix) c = insI ([] : List Nm) (if idxI (gtN c.name) ([] : List Nm) < 0 then ([] : List Nm).length else (idxI (gtN c.name) ([] : List Nm)).toNat) (newN c) := by
    unfold putN; rw [if_neg (by omega)]
  have hpl := hpa _ (getD_memL i1)
  rw [volP_at h1] at v1
  dsimp only at v1
  generalize volI (⟨V, [], L⟩ : Ix) c.vol = i at *
  generalize nameP (⟨V, [], L⟩ : Ix) c.name = w at *
  generalize nameI (⟨V, [], L⟩ : Ix) c.name = k at *
  generalize V.getD i.toNat default = v at *
  generalize putN (⟨V, [], L⟩ : Ix) c = nms at *
  have c2 : (v.phase != 1) = false := by simpa using h2
  have c4 : (c.n == 0) = false := by
    rw [beq_eq_false_iff_ne]; exact fun h => h3 (.inl h)
  have c5 : decide (v.used < c.off + c.n) = false := decide_eq_false fun h => h3 (.inr h)
  have w0 := setSp_sat v.parts (-1) (c.off, c.n) hpl (.inl (by omega))
  rw [show setL v.parts (-1) (c.off, c.n) = (addP v c).parts from if_pos (by omega)] at w0
  have w1 := setVl_sat V i (addP v c) hl (.inr i1)
  rw [show vl (addP v c) = .agg [.int .i64 v.id, .int .i64 v.home, .int .i64 v.mate, .int .i64 v.used, .int .i64 v.phase, .sl .sh 2 ((addP v c).parts.map plc), .sl .sh 2 (v.places.map plc), .int .i64 v.pair, .int .i64 v.sum] from rfl] at w1
  generalize setL V i (addP v c) = vs1 at *
  generalize (addP v c).parts = ps at *
  have c6 : decide (k < 0) = true := decide_eq_true hk
  have c6' : decide (0 ≤ k) = false := decide_eq_false (by omega)
  rw [c6']
  have c7 : decide (64 ≤ (([] : List Nm).length : Int)) = false := decide_eq_false (by omega)
  have c7m : decide (64 ≤ ((([] : List Nm).map nm).length : Int)) = false := by rw [List.length_map]; exact c7
  have hC0 := cloneNm0_sat
  have hI0 := insertNm0_sat (newN c)
  repeat' (first | (apply og_ops; (first | (apply og_guard; (apply ops_guard_t; exact (rfl : _ = some _); exact (rfl : _ = PV.bool _); (assumption))) | (apply og_move; (apply op_move (tt := tt); (focus ((conv => lhs; whnf); try exact rfl)); exact rfl)) | (apply og_assign; (apply op_assign (tt := tt); (focus ((conv => lhs; whnf); try exact rfl)); exact rfl)) | (apply og_callv; (first | (refine op_callP (tt := tt) cal41 (v1 _) rfl rfl rfl rfl rfl ?_) | (refine op_callP (tt := tt) cal42 (n1 _) rfl rfl rfl rfl rfl ?_) | (refine op_callP (tt := tt) cal98 (w0 _) rfl rfl rfl rfl rfl ?_) | (refine op_callP (tt := tt) cal97 (w1 _) rfl rfl rfl rfl rfl ?_))) | (apply og_bin; (apply op_bin true tab; (focus ((conv => lhs; whnf; arg 1; whnf; arg 2; whnf); try exact rfl)); (first | exact trivial | (simp only [InR]; omega)); exact rfl)) | (apply og_pick; (apply op_pick (tt := tt); exact (rfl : _ = PV.bool _); (first | refine .inl ⟨by assumption, ?_⟩ | refine .inr ⟨by assumption, ?_⟩); (focus ((conv => lhs; whnf); try exact rfl)); exact ltn rfl)) | (apply og_load; (apply op_lk; (apply lk_loadX tab; exact rfl; exact rfl; exact rfl; (focus ((conv => lhs; whnf; arg 1; whnf; arg 2; whnf); try skip)); (first | exact trivial | exact Nat.le_of_ble_eq_true rfl)); (intro c h; cases h); exact rfl)) | (apply og_callb; (apply op_len tab; (focus ((conv => lhs; whnf; arg 1; whnf; arg 2; whnf); try exact rfl)); (exact trivial); exact rfl)) | (apply og_fieldAddr; (apply op_lk; (apply lk_fieldAddrB tab; exact rfl; (focus ((conv => lhs; whnf); try exact rfl)); exact rfl; (first | exact (rfl : _ = 0) | exact (rfl : _ = 1) | exact (rfl : _ = 3) | exact (rfl : _ = 4) | exact (rfl : _ = 5) | exact (rfl : _ = 6) | exact (rfl : _ = 7))); (intro c h; cases h); exact rfl)) | (apply og_extract; (apply op_extract (tt := tt); (focus ((conv => lhs; whnf; arg 1; whnf; arg 2; whnf); try exact rfl)); (exact trivial); exact rfl)) | (apply og_store; (apply op_storeX tab; exact rfl; exact rfl; exact rfl; exact rfl; exact rfl; exact rfl; exact rfl; exact rfl)) | (apply og_build; (apply op_lk; (apply lk_build tab; exact rfl; (focus ((conv => lhs; whnf; arg 1; whnf; arg 2; whnf); try skip))); (intro c h; cases h); exact rfl)) | (apply og_makeFunc; (apply op_lk; (apply lk_makeFunc (tt := tt); exact rfl; exact rfl; (focus ((conv => lhs; whnf); try exact rfl))); (intro c h; cases h); exact rfl)) | (apply og_alloc; (apply op_allocX tab; exact rfl; exact rfl; (first | exact (rfl : _ = 2) | exact (rfl : _ = 3) | exact (rfl : _ = 4) | exact (rfl : _ = 5) | exact (rfl : _ = 6)); exact rfl)) | (apply og_box; (apply op_boxX (tt := tt); (focus ((conv => lhs; whnf); try exact rfl)); exact rfl; (first | exact (rfl : _ = 0) | exact (rfl : _ = 1)); exact rfl)) | (apply ops_nil))) | (apply og_sat; (first | (apply sat_seq) | (apply sat_region) | (apply sat_cond_f; exact rfl; (first | exact rfl | assumption)) | (apply sat_skip) | (apply sat_block))) | (apply pe_norm) | (apply pb_norm))
  refine ops_env [(2, .ptr (σ.length + 0) 0), (3, .ptr (σ.length + 1) 0), (4, .ptr (σ.length + 2) 0), (5, .ptr (σ.length + 3) 0), (10, .ptr (σ.length + 6) 0), (109, .sl .sh 5 (([] : List Nm).map nm)), (110, .fn (.func 100) [] [.ptr (σ.length + 1) 0])] ?_ (ops_sto (σ' := σ ++ [.cells [.sl .sh 9 (vs1.map vl), .sl .sh 5 (([] : List Nm).map nm), .sl .sh 8 (L.map ss)], .cells (cm c).cells, .cells [.sl .ow 9 [], .sl .ow 5 [], .sl .ow 8 []], .cells [.int .i64 0, .int .i64 0, .int .i64 0, .int .i64 0, .int .u32 0, .bool false], .cells [.int .i64 v.id, .int .i64 v.home, .int .i64 v.mate, .int .i64 v.used, .int .i64 v.phase, .sl .sh 2 (ps.map plc), .sl .sh 2 (v.places.map plc), .int .i64 v.pair, .int .i64 v.sum], .cells (nm w).cells, .cells (nm (newN c)).cells]) rfl ?_)
  · (repeat' (first | exact trivial | exact Wk.same _ | refine ⟨?_, ?_⟩))
  refine op_callP (tt := tt) cal81 (findNm_sat (gtN c.name) [] hnl _ cal100 (fun ex y _ => put1_sat y (σ.length + 1) c _ ?_) ?_) rfl rfl rfl rfl rfl ?_
  rotate_left 2
  · repeat' (first | (apply og_ops; (first | (apply og_move; (apply op_move (tt := tt); (focus ((conv => lhs; whnf); try exact rfl)); exact rfl)) | (apply og_assign; (apply op_assign (tt := tt); (focus ((conv => lhs; whnf); try exact rfl)); exact rfl)) | (apply og_callv; (refine op_callP (tt := tt) cal101 (hI0 _) rfl rfl rfl rfl rfl ?_)) | (apply og_bin; (apply op_bin true tab; (focus ((conv => lhs; whnf; arg 1; whnf; arg 2; whnf); try exact rfl)); (exact trivial); exact rfl)) | (apply og_load; (apply op_lk; (apply lk_loadX tab; exact rfl; exact rfl; exact rfl; (focus ((conv => lhs; whnf; arg 1; whnf; arg 2; whnf); try skip)); (first | exact trivial | exact Nat.le_of_ble_eq_true rfl)); (intro c h; cases h); exact rfl)) | (apply og_callb; (apply op_len tab; (focus ((conv => lhs; whnf; arg 1; whnf; arg 2; whnf); try exact rfl)); (exact trivial); exact rfl)) | (apply og_fieldAddr; (apply op_lk; (apply lk_fieldAddrB tab; exact rfl; (focus ((conv => lhs; whnf); try exact rfl)); exact rfl; (exact (rfl : _ = 1))); (intro c h; cases h); exact rfl)) | (apply og_extract; (apply op_extract (tt := tt); (focus ((conv => lhs; whnf; arg 1; whnf; arg 2; whnf); try exact rfl)); (exact trivial); exact rfl)) | (apply og_store; (apply op_storeX tab; exact rfl; exact rfl; exact rfl; exact rfl; exact rfl; exact rfl; exact rfl; exact rfl)) | (apply og_build; (apply op_lk; (apply lk_build tab; exact rfl; (focus ((conv => lhs; whnf; arg 1; whnf; arg 2; whnf); try skip))); (intro c h; cases h); exact rfl)) | (apply og_alloc; (apply op_allocX tab; exact rfl; exact rfl; (exact (rfl : _ = 7)); exact rfl)) | (apply ops_nil))) | (apply og_sat; (first | (apply sat_seq) | (apply sat_region) | (apply sat_cond_t; exact rfl; (exact rfl)) | (apply sat_ret) | (apply sat_drawC (k := 6); exact mixed; decide +kernel; decide +kernel))) | (apply pe_norm) | (apply og_dd; (first | (refine dd_cons (step_call (tt := tt) cal102 (hC0 _) rfl rfl rfl rfl rfl) ?_) | (apply dd_lk; (first | (apply lg_move; (apply lk_move (tt := tt); (focus ((conv => lhs; whnf); try exact rfl)))) | (apply lg_fieldAddr; (apply lk_fieldAddrB tab; exact rfl; (focus ((conv => lhs; whnf); try exact rfl)); exact rfl; (exact (rfl : _ = 1)))) | (apply lg_load; (apply lk_loadX tab; exact rfl; exact rfl; exact rfl; (focus ((conv => lhs; whnf; arg 1; whnf; arg 2; whnf); try skip)); (first | exact trivial | exact Nat.le_of_ble_eq_true rfl)))); exact rfl; exact rfl) | (apply dd_build tab; exact rfl; (focus ((repeat (apply opvs_cons; (focus ((conv => lhs; whnf); try exact rfl)))); exact opvs_nil)); exact rfl; exact rfl; exact rfl; exact rfl; exact rfl; exact rfl) | (apply dd_nil))))
    (change fnPost _ _ _ _ _ _ _; apply fn_endN; (exact .inr rfl); (focus (repeat' (first | (apply rr_cell; exact rfl; exact rfl; exact rfl; (focus ((conv => lhs; whnf; arg 1; whnf; arg 2; whnf); try skip)); (exact Nat.le_of_ble_eq_true rfl)) | exact rr_nil))); exact rfl; (exact rfl); exact Nat.le_refl _; (focus (repeat' (first | exact trivial | refine ⟨?_, ?_⟩))); exact hso)
    exact ⟨by rw [hN]; rfl, rfl⟩
  · exact getL (getX _)
  · rfl


set_option maxHeartbeats 8000000 in
theorem putI_new0 (x : Ix) (c : Cm) (hl : x.vols.length ≤ 1048576) (hnl : x.names.length ≤ 1048576) (hpa : ∀ v ∈ x.vols, v.parts.length ≤ 1048576) (ho : 0 ≤ c.off ∧ c.off ≤ 1048576) (hn : 0 ≤ c.n ∧ c.n ≤ 1048576) (hg : beqS c.name ⟨#[]⟩ = false ∧ ¬ volI x c.vol < 0 ∧ (x.vols.getD (volI x c.vol).toNat default).phase = 1 ∧ ¬ (c.n = 0 ∨ (x.vols.getD (volI x c.vol).toNat default).used < c.off + c.n) ∧ nameI x c.name < 0 ∧ x.names.length < 64) (hx : x.names = []) (σ : Sto) : SatCall Try.prog 70 [ix x, cm c] σ fun r σ' => r = .tup [ix (putX x c).1, rp (putX x c).2] ∧ σ' = σ := by
  obtain ⟨V, Ns, L⟩ := x
  dsimp only at hx
  subst hx
  exact putI_new00 V L c hl hnl hpa ho hn hg σ

end Go.Proofs.Ytbjmafbbjhoddaa.Pv
