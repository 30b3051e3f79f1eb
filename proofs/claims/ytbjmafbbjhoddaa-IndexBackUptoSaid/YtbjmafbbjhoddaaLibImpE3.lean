/- Indexes in the program itself: bytes named, by a new name. -/
import Derived.Test.YtbjmafbbjhoddaaLibImpA
import Derived.Test.YtbjmafbbjhoddaaLibImpB
import Derived.Test.YtbjmafbbjhoddaaLibImpE1
import Derived.Test.YtbjmafbbjhoddaaPvZt
namespace Go.Proofs.Ytbjmafbbjhoddaa.Pv
open Go
set_option linter.unusedVariables false
set_option linter.unusedSimpArgs false
set_option maxRecDepth 100000

theorem stepO_eq {P : Program} {l : Option Nat} {n m : Nat} {all : Array Oper} {env : Env} {σ0 σ1 : Sto} {o : Oper} {ws ws' : Ws} (h : StepO P l n m all env σ0 σ1 o ws') (e : ws' = ws) : StepO P l n m all env σ0 σ1 o ws := e ▸ h

set_option maxHeartbeats 8000000 in
theorem putI_new1 (x : Ix) (c : Cm) (hl : x.vols.length ≤ 1048576) (hnl : x.names.length ≤ 1048576) (hpa : ∀ v ∈ x.vols, v.parts.length ≤ 1048576) (ho : 0 ≤ c.off ∧ c.off ≤ 1048576) (hn : 0 ≤ c.n ∧ c.n ≤ 1048576) (hg : beqS c.name ⟨#[]⟩ = false ∧ ¬ volI x c.vol < 0 ∧ (x.vols.getD (volI x c.vol).toNat default).phase = 1 ∧ ¬ (c.n = 0 ∨ (x.vols.getD (volI x c.vol).toNat default).used < c.off + c.n) ∧ nameI x c.name < 0 ∧ x.names.length < 64) (hx : x.names ≠ []) (σ : Sto) : SatCall Try.prog 70 [ix x, cm c] σ fun r σ' => r = .tup [ix (putX x c).1, rp (putX x c).2] ∧ σ' = σ := by
  refine sat_fn tab Try.func70 rfl (Nat.le_of_ble_eq_true rfl) (by decide) fun hso => sat_base ?_
  have v1 := vol_sat x c.vol hl
  have n1 := name_sat x c.name hnl
  obtain ⟨h0', h1, h2, h3, hk, h64⟩ := hg
  unfold putX
  rw [if_neg (by rw [h0']; decide), if_neg h1, if_neg (fun h => h h2), if_neg h3, if_neg (by omega)]
  have c1 : decide (volI x c.vol < 0) = false := decide_eq_false h1
  have i0 : 0 ≤ volI x c.vol := by omega
  have i1 : (volI x c.vol).toNat < x.vols.length := idxI_ltL (p := (fun v : Vl => v.id == c.vol)) (xs := x.vols) i0
  have hN : putN x c = insI x.names (if idxI (gtN c.name) x.names < 0 then x.names.length else (idxI (gtN c.name) x.names).toNat) (newN c) := by
    unfold putN; rw [if_neg (by omega)]
  have hpl := hpa _ (getD_memL i1)
  rw [volP_at h1] at v1
  generalize volI x c.vol = i at *
  generalize nameP x c.name = w at *
  generalize nameI x c.name = k at *
  generalize x.vols.getD i.toNat default = v at *
  generalize putN x c = nms at *
  have c2 : (v.phase != 1) = false := by simpa using h2
  have c4 : (c.n == 0) = false := by
    rw [beq_eq_false_iff_ne]; exact fun h => h3 (.inl h)
  have c5 : decide (v.used < c.off + c.n) = false := decide_eq_false fun h => h3 (.inr h)
  have w0 := setSp_sat v.parts (-1) (c.off, c.n) hpl (.inl (by omega))
  rw [show setL v.parts (-1) (c.off, c.n) = (addP v c).parts from if_pos (by omega)] at w0
  have w1 := setVl_sat x.vols i (addP v c) hl (.inr i1)
  rw [show vl (addP v c) = .agg [.int .i64 v.id, .int .i64 v.home, .int .i64 v.mate, .int .i64 v.used, .int .i64 v.phase, .sl .sh 2 ((addP v c).parts.map plc), .sl .sh 2 (v.places.map plc), .int .i64 v.pair, .int .i64 v.sum] from rfl] at w1
  generalize setL x.vols i (addP v c) = vs1 at *
  generalize (addP v c).parts = ps at *
  have c6 : decide (k < 0) = true := decide_eq_true hk
  have c6' : decide (0 ≤ k) = false := decide_eq_false (by omega)
  rw [c6']
  have c7 : decide (64 ≤ (x.names.length : Int)) = false := decide_eq_false (by omega)
  have c7m : decide (64 ≤ ((x.names.map nm).length : Int)) = false := by rw [List.length_map]; exact c7
  have hC := fun ex : Sto => cloneNmR_sat x.names hnl (σ ++ ex)
  simp only [List.length_append, List.append_assoc] at hC
  repeat' (first | (apply og_ops; (first | (apply og_guard; (apply ops_guard_t; exact (rfl : _ = some _); exact (rfl : _ = PV.bool _); (assumption))) | (apply og_move; (apply op_move (tt := tt); (focus ((conv => lhs; whnf); try exact rfl)); exact rfl)) | (apply og_assign; (apply op_assign (tt := tt); (focus ((conv => lhs; whnf); try exact rfl)); exact rfl)) | (apply og_callv; (first | (refine op_callP (tt := tt) cal41 (v1 _) rfl rfl rfl rfl rfl ?_) | (refine op_callP (tt := tt) cal42 (n1 _) rfl rfl rfl rfl rfl ?_) | (refine op_callP (tt := tt) cal98 (w0 _) rfl rfl rfl rfl rfl ?_) | (refine op_callP (tt := tt) cal97 (w1 _) rfl rfl rfl rfl rfl ?_))) | (apply og_bin; (apply op_bin true tab; (focus ((conv => lhs; whnf; arg 1; whnf; arg 2; whnf); try exact rfl)); (first | exact trivial | (simp only [InR]; omega)); exact rfl)) | (apply og_pick; (apply op_pick (tt := tt); exact (rfl : _ = PV.bool _); (first | refine .inl ⟨by assumption, ?_⟩ | refine .inr ⟨by assumption, ?_⟩); (focus ((conv => lhs; whnf); try exact rfl)); exact ltn rfl)) | (apply og_load; (apply op_lk; (apply lk_loadX tab; exact rfl; exact rfl; exact rfl; (focus ((conv => lhs; whnf; arg 1; whnf; arg 2; whnf); try skip)); (first | exact trivial | exact Nat.le_of_ble_eq_true rfl)); (intro c h; cases h); exact rfl)) | (apply og_callb; (apply op_len tab; (focus ((conv => lhs; whnf; arg 1; whnf; arg 2; whnf); try exact rfl)); (exact trivial); exact rfl)) | (apply og_fieldAddr; (apply op_lk; (apply lk_fieldAddrB tab; exact rfl; (focus ((conv => lhs; whnf); try exact rfl)); exact rfl; (first | exact (rfl : _ = 0) | exact (rfl : _ = 1) | exact (rfl : _ = 3) | exact (rfl : _ = 4) | exact (rfl : _ = 5) | exact (rfl : _ = 6) | exact (rfl : _ = 7))); (intro c h; cases h); exact rfl)) | (apply og_extract; (apply op_extract (tt := tt); (focus ((conv => lhs; whnf; arg 1; whnf; arg 2; whnf); try exact rfl)); (exact trivial); exact rfl)) | (apply og_store; (apply op_storeX tab; exact rfl; exact rfl; exact rfl; exact rfl; exact rfl; exact rfl; exact rfl; exact rfl)) | (apply og_build; (apply op_lk; (apply lk_build tab; exact rfl; (focus ((conv => lhs; whnf; arg 1; whnf; arg 2; whnf); try skip))); (intro c h; cases h); exact rfl)) | (apply og_makeFunc; (apply op_lk; (apply lk_makeFunc (tt := tt); exact rfl; exact rfl; (focus ((conv => lhs; whnf); try exact rfl))); (intro c h; cases h); exact rfl)) | (apply og_alloc; (apply op_allocX tab; exact rfl; exact rfl; (first | exact (rfl : _ = 2) | exact (rfl : _ = 3) | exact (rfl : _ = 4) | exact (rfl : _ = 5) | exact (rfl : _ = 6)); exact rfl)) | (apply og_box; (apply op_boxX (tt := tt); (focus ((conv => lhs; whnf); try exact rfl)); exact rfl; (first | exact (rfl : _ = 0) | exact (rfl : _ = 1)); exact rfl)) | (apply ops_nil))) | (apply og_sat; (first | (apply sat_seq) | (apply sat_region) | (apply sat_cond_f; exact rfl; (assumption)) | (apply sat_skip) | (apply sat_block))) | (apply pe_norm) | (apply pb_norm))
  refine ops_env [(2, .ptr (σ.length + 0) 0), (3, .ptr (σ.length + 1) 0), (4, .ptr (σ.length + 2) 0), (5, .ptr (σ.length + 3) 0), (10, .ptr (σ.length + 6) 0), (109, .sl .sh 5 (x.names.map nm)), (110, .fn (.func 100) [] [.ptr (σ.length + 1) 0])] ?_ (ops_sto (σ' := σ ++ [.cells [.sl .sh 9 (vs1.map vl), .sl .sh 5 (x.names.map nm), .sl .sh 8 (x.last.map ss)], .cells (cm c).cells, .cells [.sl .ow 9 [], .sl .ow 5 [], .sl .ow 8 []], .cells [.int .i64 0, .int .i64 0, .int .i64 0, .int .i64 0, .int .u32 0, .bool false], .cells [.int .i64 v.id, .int .i64 v.home, .int .i64 v.mate, .int .i64 v.used, .int .i64 v.phase, .sl .sh 2 (ps.map plc), .sl .sh 2 (v.places.map plc), .int .i64 v.pair, .int .i64 v.sum], .cells (nm w).cells, .cells (nm (newN c)).cells]) rfl ?_)
  · (repeat' (first | exact trivial | exact Wk.same _ | refine ⟨?_, ?_⟩))
  refine op_callP (tt := tt) cal81 (findNm_sat (gtN c.name) x.names hnl _ cal100 (fun ex y _ => put1_sat y (σ.length + 1) c _ ?_) ?_) rfl rfl rfl rfl rfl ?_
  rotate_left 2
  · by_cases hgt : idxI (gtN c.name) x.names < 0
    · rw [if_pos hgt] at hN
      have d1 : decide (idxI (gtN c.name) x.names < 0) = true := decide_eq_true hgt
      repeat' (first | (apply og_ops; (first | (apply og_move; (apply op_move (tt := tt); (focus ((conv => lhs; whnf); try exact rfl)); exact rfl)) | (apply og_assign; (apply op_assign (tt := tt); (focus ((conv => lhs; whnf); try exact rfl)); exact rfl)) | (apply og_bin; (apply op_bin true tab; (focus ((conv => lhs; whnf; arg 1; whnf; arg 2; whnf); try exact rfl)); (exact trivial); exact rfl)) | (apply og_load; (apply op_lk; (apply lk_loadX tab; exact rfl; exact rfl; exact rfl; (focus ((conv => lhs; whnf; arg 1; whnf; arg 2; whnf); try skip)); (exact trivial)); (intro c h; cases h); exact rfl)) | (apply og_callb; (apply op_len tab; (focus ((conv => lhs; whnf; arg 1; whnf; arg 2; whnf); try exact rfl)); (exact trivial); exact rfl)) | (apply og_fieldAddr; (apply op_lk; (apply lk_fieldAddrB tab; exact rfl; (focus ((conv => lhs; whnf); try exact rfl)); exact rfl; (exact (rfl : _ = 1))); (intro c h; cases h); exact rfl)) | (apply og_extract; (apply op_extract (tt := tt); (focus ((conv => lhs; whnf; arg 1; whnf; arg 2; whnf); try exact rfl)); (exact trivial); exact rfl)) | (apply og_store; (apply op_storeX tab; exact rfl; exact rfl; exact rfl; exact rfl; exact rfl; exact rfl; exact rfl; exact rfl)) | (apply og_alloc; (apply op_allocX tab; exact rfl; exact rfl; (exact (rfl : _ = 7)); exact rfl)) | (apply ops_nil))) | (apply og_sat; (first | (apply sat_seq) | (apply sat_region) | (apply sat_cond_t; exact rfl; (assumption)))) | (apply pe_norm))
      rw [show x.names.length = (x.names.map nm).length by rw [List.length_map]] at hN
      have hle : (x.names.map nm).length ≤ x.names.length := by rw [List.length_map]; exact Nat.le_refl _
      generalize (x.names.map nm).length = q at *
      refine sat_drawRel2 (α := Nat) (k := 7) (j := 2) (j2 := 6) (keys := [[119], [120], [121], [122], [123], [124], [125]]) (R := fun cp => x.names.length ≤ cp) (wsj := fun cp => [(121, .xsl (σ.length + 8) 0 5 x.names.length cp)]) (bx := fun cp => .cells (flat (x.names.map nm) ++ room ((cp - x.names.length) * 5)))
        (wss0 := [[(119, .ptr (σ.length + 0) 1)], [(120, .sl .sh 5 (x.names.map nm))], [(121, .dead)], [(122, .int .i64 (q : Int))], [(123, nm (newN c))], [(124, .sl .ow 5 [nm (newN c)])], [(125, .dead)]])
        (wss := fun cp => [[(119, .ptr (σ.length + 0) 1)], [(120, .sl .sh 5 (x.names.map nm))], [(121, .xsl (σ.length + 8) 0 5 x.names.length cp)], [(122, .int .i64 (q : Int))], [(123, nm (newN c))], [(124, .sl .ow 5 [nm (newN c)])], [(125, .sl .sh 5 ((insI x.names q (newN c)).map nm))]])
        mixed (by decide +kernel) (by decide +kernel) rfl rfl ?_ ?_ ?_
      · refine ds_step rfl rfl ?_ (ds_step rfl rfl ?_ (ds_skip rfl (by decide +kernel) (ds_step rfl rfl ?_ (ds_step rfl rfl ?_ (ds_step rfl rfl ?_ (ds_skip rfl (by decide +kernel) ds_nil))))))
        · intro a _ _
          show StepO _ _ _ _ _ _ (σ ++ _) (σ ++ _) _ _
          apply stepO_eq (ws' := [(_, _)])
          · repeat' (apply so_lk; (apply lg_fieldAddr; (apply lk_fieldAddrB tab; exact rfl; (focus ((conv => lhs; whnf); try exact rfl)); exact rfl; (exact (rfl : _ = 1)))); exact rfl; exact rfl)
          · rfl
        · intro a _ _
          show StepO _ _ _ _ _ _ (σ ++ _) (σ ++ _) _ _
          apply stepO_eq (ws' := [(_, _)])
          · repeat' (apply so_lk; (apply lg_load; (apply lk_loadX tab; exact rfl; exact rfl; exact rfl; (focus ((conv => lhs; whnf; arg 1; whnf; arg 2; whnf); try skip)); (exact trivial))); exact rfl; exact rfl)
          · rfl
        · intro a _ _
          show StepO _ _ _ _ _ _ (σ ++ _) (σ ++ _) _ _
          apply stepO_eq (ws' := [(_, _)])
          · repeat' (apply so_lk; (apply lg_move; (apply lk_move (tt := tt); (focus ((conv => lhs; whnf); try exact rfl)))); exact rfl; exact rfl)
          · rfl
        · intro a _ _
          show StepO _ _ _ _ _ _ (σ ++ _) (σ ++ _) _ _
          apply stepO_eq (ws' := [(_, _)])
          · repeat' (apply so_lk; (apply lg_load; (apply lk_loadX tab; exact rfl; exact rfl; exact rfl; (focus ((conv => lhs; whnf; arg 1; whnf; arg 2; whnf); try skip)); (exact Nat.le_of_ble_eq_true rfl))); exact rfl; exact rfl)
          · rfl
        · intro a _ _
          show StepO _ _ _ _ _ _ (σ ++ _) (σ ++ _) _ _
          apply stepO_eq (ws' := [(_, _)])
          · repeat' (first | (apply og_ops; (first | (apply og_buildSlice; (apply op_buildSliceX .ow tab; exact rfl; (focus ((repeat (apply opvs_cons; (focus ((conv => lhs; whnf); try exact rfl)))); exact opvs_nil)); exact rfl; exact rfl; exact rfl; exact rfl; exact rfl; exact rfl)) | (apply ops_nil))) | (apply og_so; intro env0) | (apply eg3; exact rfl; exact rfl; exact rfl))
          · rfl
      · refine stepR_of fun env0 => ?_
        refine op_callR (tt := tt) cal102 (hC _) rfl rfl rfl rfl rfl ?_
        rintro r σ' (⟨he, _⟩ | ⟨cp, hcp, rfl, rfl⟩)
        · exact absurd he hx
        · exact ops_nil ⟨rfl, cp, hcp, rfl, rfl⟩
      · intro cp hcp
        refine ⟨?_, rfl, ?_, ?_⟩
        · refine ds_step rfl rfl ?_ (ds_step rfl rfl ?_ (ds_skip rfl rfl (ds_step rfl rfl ?_ (ds_step rfl rfl ?_ (ds_step rfl rfl ?_ (ds_turn (b := 1) rfl rfl ?_ ds_nil))))))
          · intro a ha hs
            obtain rfl | rfl | rfl : a = 0 ∨ a = 1 ∨ a = 2 := by have : a ≤ 2 := ha; omega
            · show StepO _ _ _ _ _ _ (σ ++ _) (σ ++ _) _ _
              apply stepO_eq (ws' := [(_, _)])
              · repeat' (apply so_lk; (apply lg_fieldAddr; (apply lk_fieldAddrB tab; exact rfl; (focus ((conv => lhs; whnf); try exact rfl)); exact rfl; (exact (rfl : _ = 1)))); exact rfl; exact rfl)
              · rfl
            · exact absurd hs (by decide +kernel)
            · exact absurd hs (by decide +kernel)
          · intro a ha hs
            obtain rfl | rfl | rfl : a = 0 ∨ a = 1 ∨ a = 2 := by have : a ≤ 2 := ha; omega
            · show StepO _ _ _ _ _ _ (σ ++ _) (σ ++ _) _ _
              apply stepO_eq (ws' := [(_, _)])
              · repeat' (apply so_lk; (apply lg_load; (apply lk_loadX tab; exact rfl; exact rfl; exact rfl; (focus ((conv => lhs; whnf; arg 1; whnf; arg 2; whnf); try skip)); (exact trivial))); exact rfl; exact rfl)
              · rfl
            · exact absurd hs (by decide +kernel)
            · exact absurd hs (by decide +kernel)
          · intro a ha hs
            obtain rfl | rfl | rfl : a = 0 ∨ a = 1 ∨ a = 2 := by have : a ≤ 2 := ha; omega
            · show StepO _ _ _ _ _ _ (σ ++ _) (σ ++ _) _ _
              apply stepO_eq (ws' := [(_, _)])
              · repeat' (apply so_lk; (apply lg_move; (apply lk_move (tt := tt); (focus ((conv => lhs; whnf); try exact rfl)))); exact rfl; exact rfl)
              · rfl
            · show StepO _ _ _ _ _ _ (σ ++ _) (σ ++ _) _ _
              apply stepO_eq (ws' := [(_, _)])
              · repeat' (apply so_lk; (apply lg_move; (apply lk_move (tt := tt); (focus ((conv => lhs; whnf); try exact rfl)))); exact rfl; exact rfl)
              · rfl
            · exact absurd hs (by decide +kernel)
          · intro a ha hs
            obtain rfl | rfl | rfl : a = 0 ∨ a = 1 ∨ a = 2 := by have : a ≤ 2 := ha; omega
            · show StepO _ _ _ _ _ _ (σ ++ _) (σ ++ _) _ _
              apply stepO_eq (ws' := [(_, _)])
              · repeat' (apply so_lk; (apply lg_load; (apply lk_loadX tab; exact rfl; exact rfl; exact rfl; (focus ((conv => lhs; whnf; arg 1; whnf; arg 2; whnf); try skip)); (exact Nat.le_of_ble_eq_true rfl))); exact rfl; exact rfl)
              · rfl
            · show StepO _ _ _ _ _ _ (σ ++ _) (σ ++ _) _ _
              apply stepO_eq (ws' := [(_, _)])
              · repeat' (apply so_lk; (apply lg_load; (apply lk_loadX tab; exact rfl; exact rfl; exact rfl; (focus ((conv => lhs; whnf; arg 1; whnf; arg 2; whnf); try skip)); (exact Nat.le_of_ble_eq_true rfl))); exact rfl; exact rfl)
              · rfl
            · exact absurd hs (by decide +kernel)
          · intro a ha hs
            obtain rfl | rfl | rfl : a = 0 ∨ a = 1 ∨ a = 2 := by have : a ≤ 2 := ha; omega
            · show StepO _ _ _ _ _ _ (σ ++ _) (σ ++ _) _ _
              apply stepO_eq (ws' := [(_, _)])
              · repeat' (first | (apply og_ops; (first | (apply og_buildSlice; (apply op_buildSliceX .ow tab; exact rfl; (focus ((repeat (apply opvs_cons; (focus ((conv => lhs; whnf); try exact rfl)))); exact opvs_nil)); exact rfl; exact rfl; exact rfl; exact rfl; exact rfl; exact rfl)) | (apply ops_nil))) | (apply og_so; intro env0) | (apply eg3; exact rfl; exact rfl; exact rfl))
              · rfl
            · show StepO _ _ _ _ _ _ (σ ++ _) (σ ++ _) _ _
              apply stepO_eq (ws' := [(_, _)])
              · repeat' (first | (apply og_ops; (first | (apply og_buildSlice; (apply op_buildSliceX .ow tab; exact rfl; (focus ((repeat (apply opvs_cons; (focus ((conv => lhs; whnf); try exact rfl)))); exact opvs_nil)); exact rfl; exact rfl; exact rfl; exact rfl; exact rfl; exact rfl)) | (apply ops_nil))) | (apply og_so; intro env0) | (apply eg3; exact rfl; exact rfl; exact rfl))
              · rfl
            · exact absurd hs (by decide +kernel)
          · show StepO _ _ _ _ _ _ (σ ++ _) (σ ++ _) _ _
            refine og_so fun env0 => ?_
            refine op_callR (tt := tt) cal101 (insertNm_sat x.names q (newN c) (σ.length + 8) cp hle hnl hcp _ (getX 8)) rfl rfl rfl rfl rfl ?_
            rintro r σ' ⟨rfl, rfl⟩
            refine ops_sto (setX (τ := σ) 8 .gone) ?_
            exact ops_nil (eg3 rfl rfl rfl)
        · intro i hi hs
          obtain rfl | rfl | rfl | rfl | rfl | rfl | rfl : i = 0 ∨ i = 1 ∨ i = 2 ∨ i = 3 ∨ i = 4 ∨ i = 5 ∨ i = 6 := by omega
          · rfl
          · rfl
          · exact absurd hs (by decide +kernel)
          · rfl
          · rfl
          · rfl
          · exact absurd hs (by decide +kernel)
        · repeat' (first | (apply og_ops; (first | (apply og_load; (apply op_lk; (apply lk_loadX tab; exact rfl; exact rfl; exact rfl; (focus ((conv => lhs; whnf; arg 1; whnf; arg 2; whnf); try skip)); (exact Nat.le_of_ble_eq_true rfl)); (intro c h; cases h); exact rfl)) | (apply og_fieldAddr; (apply op_lk; (apply lk_fieldAddrB tab; exact rfl; (focus ((conv => lhs; whnf); try exact rfl)); exact rfl; (exact (rfl : _ = 1))); (intro c h; cases h); exact rfl)) | (apply og_store; (apply op_storeX tab; exact rfl; exact rfl; exact rfl; exact rfl; exact rfl; exact rfl; exact rfl; exact rfl)) | (apply og_build; (apply op_lk; (apply lk_build tab; exact rfl; (focus ((conv => lhs; whnf; arg 1; whnf; arg 2; whnf); try skip))); (intro c h; cases h); exact rfl)) | (apply ops_nil))) | (apply og_sat; (first | (apply sat_seq) | (apply sat_region) | (apply sat_ret))) | (apply pe_norm))
          (change fnPost _ _ _ _ _ _ _; apply fn_endN; (exact .inr rfl); (focus (repeat' (first | (apply rr_cell; exact rfl; exact rfl; exact rfl; (focus ((conv => lhs; whnf; arg 1; whnf; arg 2; whnf); try skip)); (exact Nat.le_of_ble_eq_true rfl)) | exact rr_nil))); exact rfl; (exact rfl); exact Nat.le_refl _; (focus (repeat' (first | exact trivial | refine ⟨?_, ?_⟩))); exact hso)
          exact ⟨by rw [hN]; rfl, rfl⟩
    · rw [if_neg hgt] at hN
      have d1 : decide (idxI (gtN c.name) x.names < 0) = false := decide_eq_false hgt
      have hle : (idxI (gtN c.name) x.names).toNat ≤ x.names.length := Nat.le_of_lt (idxI_ltL (by omega))
      have hq0 : 0 ≤ idxI (gtN c.name) x.names := by omega
      generalize idxI (gtN c.name) x.names = qi at *
      obtain ⟨q, rfl⟩ := Int.eq_ofNat_of_zero_le hq0
      rw [Int.toNat_natCast] at hN hle
      repeat' (first | (apply og_ops; (first | (apply og_move; (apply op_move (tt := tt); (focus ((conv => lhs; whnf); try exact rfl)); exact rfl)) | (apply og_assign; (apply op_assign (tt := tt); (focus ((conv => lhs; whnf); try exact rfl)); exact rfl)) | (apply og_bin; (apply op_bin true tab; (focus ((conv => lhs; whnf; arg 1; whnf; arg 2; whnf); try exact rfl)); (exact trivial); exact rfl)) | (apply og_extract; (apply op_extract (tt := tt); (focus ((conv => lhs; whnf; arg 1; whnf; arg 2; whnf); try exact rfl)); (exact trivial); exact rfl)) | (apply og_store; (apply op_storeX tab; exact rfl; exact rfl; exact rfl; exact rfl; exact rfl; exact rfl; exact rfl; exact rfl)) | (apply og_alloc; (apply op_allocX tab; exact rfl; exact rfl; (exact (rfl : _ = 7)); exact rfl)) | (apply ops_nil))) | (apply og_sat; (first | (apply sat_seq) | (apply sat_region) | (apply sat_cond_f; exact rfl; (exact rfl)) | (apply sat_skip))) | (apply pe_norm))
      refine sat_drawRel2 (α := Nat) (k := 7) (j := 2) (j2 := 6) (keys := [[119], [120], [121], [122], [123], [124], [125]]) (R := fun cp => x.names.length ≤ cp) (wsj := fun cp => [(121, .xsl (σ.length + 8) 0 5 x.names.length cp)]) (bx := fun cp => .cells (flat (x.names.map nm) ++ room ((cp - x.names.length) * 5)))
        (wss0 := [[(119, .ptr (σ.length + 0) 1)], [(120, .sl .sh 5 (x.names.map nm))], [(121, .dead)], [(122, .int .i64 (q : Int))], [(123, nm (newN c))], [(124, .sl .ow 5 [nm (newN c)])], [(125, .dead)]])
        (wss := fun cp => [[(119, .ptr (σ.length + 0) 1)], [(120, .sl .sh 5 (x.names.map nm))], [(121, .xsl (σ.length + 8) 0 5 x.names.length cp)], [(122, .int .i64 (q : Int))], [(123, nm (newN c))], [(124, .sl .ow 5 [nm (newN c)])], [(125, .sl .sh 5 ((insI x.names q (newN c)).map nm))]])
        mixed (by decide +kernel) (by decide +kernel) rfl rfl ?_ ?_ ?_
      · refine ds_step rfl rfl ?_ (ds_step rfl rfl ?_ (ds_skip rfl (by decide +kernel) (ds_step rfl rfl ?_ (ds_step rfl rfl ?_ (ds_step rfl rfl ?_ (ds_skip rfl (by decide +kernel) ds_nil))))))
        · intro a _ _
          show StepO _ _ _ _ _ _ (σ ++ _) (σ ++ _) _ _
          apply stepO_eq (ws' := [(_, _)])
          · repeat' (apply so_lk; (apply lg_fieldAddr; (apply lk_fieldAddrB tab; exact rfl; (focus ((conv => lhs; whnf); try exact rfl)); exact rfl; (exact (rfl : _ = 1)))); exact rfl; exact rfl)
          · rfl
        · intro a _ _
          show StepO _ _ _ _ _ _ (σ ++ _) (σ ++ _) _ _
          apply stepO_eq (ws' := [(_, _)])
          · repeat' (apply so_lk; (apply lg_load; (apply lk_loadX tab; exact rfl; exact rfl; exact rfl; (focus ((conv => lhs; whnf; arg 1; whnf; arg 2; whnf); try skip)); (exact trivial))); exact rfl; exact rfl)
          · rfl
        · intro a _ _
          show StepO _ _ _ _ _ _ (σ ++ _) (σ ++ _) _ _
          apply stepO_eq (ws' := [(_, _)])
          · repeat' (apply so_lk; (apply lg_move; (apply lk_move (tt := tt); (focus ((conv => lhs; whnf); try exact rfl)))); exact rfl; exact rfl)
          · rfl
        · intro a _ _
          show StepO _ _ _ _ _ _ (σ ++ _) (σ ++ _) _ _
          apply stepO_eq (ws' := [(_, _)])
          · repeat' (apply so_lk; (apply lg_load; (apply lk_loadX tab; exact rfl; exact rfl; exact rfl; (focus ((conv => lhs; whnf; arg 1; whnf; arg 2; whnf); try skip)); (exact Nat.le_of_ble_eq_true rfl))); exact rfl; exact rfl)
          · rfl
        · intro a _ _
          show StepO _ _ _ _ _ _ (σ ++ _) (σ ++ _) _ _
          apply stepO_eq (ws' := [(_, _)])
          · repeat' (first | (apply og_ops; (first | (apply og_buildSlice; (apply op_buildSliceX .ow tab; exact rfl; (focus ((repeat (apply opvs_cons; (focus ((conv => lhs; whnf); try exact rfl)))); exact opvs_nil)); exact rfl; exact rfl; exact rfl; exact rfl; exact rfl; exact rfl)) | (apply ops_nil))) | (apply og_so; intro env0) | (apply eg3; exact rfl; exact rfl; exact rfl))
          · rfl
      · refine stepR_of fun env0 => ?_
        refine op_callR (tt := tt) cal102 (hC _) rfl rfl rfl rfl rfl ?_
        rintro r σ' (⟨he, _⟩ | ⟨cp, hcp, rfl, rfl⟩)
        · exact absurd he hx
        · exact ops_nil ⟨rfl, cp, hcp, rfl, rfl⟩
      · intro cp hcp
        refine ⟨?_, rfl, ?_, ?_⟩
        · refine ds_step rfl rfl ?_ (ds_step rfl rfl ?_ (ds_skip rfl rfl (ds_step rfl rfl ?_ (ds_step rfl rfl ?_ (ds_step rfl rfl ?_ (ds_turn (b := 1) rfl rfl ?_ ds_nil))))))
          · intro a ha hs
            obtain rfl | rfl | rfl : a = 0 ∨ a = 1 ∨ a = 2 := by have : a ≤ 2 := ha; omega
            · show StepO _ _ _ _ _ _ (σ ++ _) (σ ++ _) _ _
              apply stepO_eq (ws' := [(_, _)])
              · repeat' (apply so_lk; (apply lg_fieldAddr; (apply lk_fieldAddrB tab; exact rfl; (focus ((conv => lhs; whnf); try exact rfl)); exact rfl; (exact (rfl : _ = 1)))); exact rfl; exact rfl)
              · rfl
            · exact absurd hs (by decide +kernel)
            · exact absurd hs (by decide +kernel)
          · intro a ha hs
            obtain rfl | rfl | rfl : a = 0 ∨ a = 1 ∨ a = 2 := by have : a ≤ 2 := ha; omega
            · show StepO _ _ _ _ _ _ (σ ++ _) (σ ++ _) _ _
              apply stepO_eq (ws' := [(_, _)])
              · repeat' (apply so_lk; (apply lg_load; (apply lk_loadX tab; exact rfl; exact rfl; exact rfl; (focus ((conv => lhs; whnf; arg 1; whnf; arg 2; whnf); try skip)); (exact trivial))); exact rfl; exact rfl)
              · rfl
            · exact absurd hs (by decide +kernel)
            · exact absurd hs (by decide +kernel)
          · intro a ha hs
            obtain rfl | rfl | rfl : a = 0 ∨ a = 1 ∨ a = 2 := by have : a ≤ 2 := ha; omega
            · show StepO _ _ _ _ _ _ (σ ++ _) (σ ++ _) _ _
              apply stepO_eq (ws' := [(_, _)])
              · repeat' (apply so_lk; (apply lg_move; (apply lk_move (tt := tt); (focus ((conv => lhs; whnf); try exact rfl)))); exact rfl; exact rfl)
              · rfl
            · show StepO _ _ _ _ _ _ (σ ++ _) (σ ++ _) _ _
              apply stepO_eq (ws' := [(_, _)])
              · repeat' (apply so_lk; (apply lg_move; (apply lk_move (tt := tt); (focus ((conv => lhs; whnf); try exact rfl)))); exact rfl; exact rfl)
              · rfl
            · exact absurd hs (by decide +kernel)
          · intro a ha hs
            obtain rfl | rfl | rfl : a = 0 ∨ a = 1 ∨ a = 2 := by have : a ≤ 2 := ha; omega
            · show StepO _ _ _ _ _ _ (σ ++ _) (σ ++ _) _ _
              apply stepO_eq (ws' := [(_, _)])
              · repeat' (apply so_lk; (apply lg_load; (apply lk_loadX tab; exact rfl; exact rfl; exact rfl; (focus ((conv => lhs; whnf; arg 1; whnf; arg 2; whnf); try skip)); (exact Nat.le_of_ble_eq_true rfl))); exact rfl; exact rfl)
              · rfl
            · show StepO _ _ _ _ _ _ (σ ++ _) (σ ++ _) _ _
              apply stepO_eq (ws' := [(_, _)])
              · repeat' (apply so_lk; (apply lg_load; (apply lk_loadX tab; exact rfl; exact rfl; exact rfl; (focus ((conv => lhs; whnf; arg 1; whnf; arg 2; whnf); try skip)); (exact Nat.le_of_ble_eq_true rfl))); exact rfl; exact rfl)
              · rfl
            · exact absurd hs (by decide +kernel)
          · intro a ha hs
            obtain rfl | rfl | rfl : a = 0 ∨ a = 1 ∨ a = 2 := by have : a ≤ 2 := ha; omega
            · show StepO _ _ _ _ _ _ (σ ++ _) (σ ++ _) _ _
              apply stepO_eq (ws' := [(_, _)])
              · repeat' (first | (apply og_ops; (first | (apply og_buildSlice; (apply op_buildSliceX .ow tab; exact rfl; (focus ((repeat (apply opvs_cons; (focus ((conv => lhs; whnf); try exact rfl)))); exact opvs_nil)); exact rfl; exact rfl; exact rfl; exact rfl; exact rfl; exact rfl)) | (apply ops_nil))) | (apply og_so; intro env0) | (apply eg3; exact rfl; exact rfl; exact rfl))
              · rfl
            · show StepO _ _ _ _ _ _ (σ ++ _) (σ ++ _) _ _
              apply stepO_eq (ws' := [(_, _)])
              · repeat' (first | (apply og_ops; (first | (apply og_buildSlice; (apply op_buildSliceX .ow tab; exact rfl; (focus ((repeat (apply opvs_cons; (focus ((conv => lhs; whnf); try exact rfl)))); exact opvs_nil)); exact rfl; exact rfl; exact rfl; exact rfl; exact rfl; exact rfl)) | (apply ops_nil))) | (apply og_so; intro env0) | (apply eg3; exact rfl; exact rfl; exact rfl))
              · rfl
            · exact absurd hs (by decide +kernel)
          · show StepO _ _ _ _ _ _ (σ ++ _) (σ ++ _) _ _
            refine og_so fun env0 => ?_
            refine op_callR (tt := tt) cal101 (insertNm_sat x.names q (newN c) (σ.length + 8) cp hle hnl hcp _ (getX 8)) rfl rfl rfl rfl rfl ?_
            rintro r σ' ⟨rfl, rfl⟩
            refine ops_sto (setX (τ := σ) 8 .gone) ?_
            exact ops_nil (eg3 rfl rfl rfl)
        · intro i hi hs
          obtain rfl | rfl | rfl | rfl | rfl | rfl | rfl : i = 0 ∨ i = 1 ∨ i = 2 ∨ i = 3 ∨ i = 4 ∨ i = 5 ∨ i = 6 := by omega
          · rfl
          · rfl
          · exact absurd hs (by decide +kernel)
          · rfl
          · rfl
          · rfl
          · exact absurd hs (by decide +kernel)
        · repeat' (first | (apply og_ops; (first | (apply og_load; (apply op_lk; (apply lk_loadX tab; exact rfl; exact rfl; exact rfl; (focus ((conv => lhs; whnf; arg 1; whnf; arg 2; whnf); try skip)); (exact Nat.le_of_ble_eq_true rfl)); (intro c h; cases h); exact rfl)) | (apply og_fieldAddr; (apply op_lk; (apply lk_fieldAddrB tab; exact rfl; (focus ((conv => lhs; whnf); try exact rfl)); exact rfl; (exact (rfl : _ = 1))); (intro c h; cases h); exact rfl)) | (apply og_store; (apply op_storeX tab; exact rfl; exact rfl; exact rfl; exact rfl; exact rfl; exact rfl; exact rfl; exact rfl)) | (apply og_build; (apply op_lk; (apply lk_build tab; exact rfl; (focus ((conv => lhs; whnf; arg 1; whnf; arg 2; whnf); try skip))); (intro c h; cases h); exact rfl)) | (apply ops_nil))) | (apply og_sat; (first | (apply sat_seq) | (apply sat_region) | (apply sat_ret))) | (apply pe_norm))
          (change fnPost _ _ _ _ _ _ _; apply fn_endN; (exact .inr rfl); (focus (repeat' (first | (apply rr_cell; exact rfl; exact rfl; exact rfl; (focus ((conv => lhs; whnf; arg 1; whnf; arg 2; whnf); try skip)); (exact Nat.le_of_ble_eq_true rfl)) | exact rr_nil))); exact rfl; (exact rfl); exact Nat.le_refl _; (focus (repeat' (first | exact trivial | refine ⟨?_, ?_⟩))); exact hso)
          exact ⟨by rw [hN]; rfl, rfl⟩
  · exact getL (getX _)
  · rfl

end Go.Proofs.Ytbjmafbbjhoddaa.Pv
