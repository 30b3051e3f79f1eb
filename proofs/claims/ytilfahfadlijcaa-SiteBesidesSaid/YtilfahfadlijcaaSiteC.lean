/- The functions of package site: the ring as a list. -/
import Derived.Test.YtilfahfadlijcaaSiteB
namespace Go.Proofs.Ytilfahfadlijcaa.Pv
open Go
set_option linter.unusedVariables false
set_option linter.unusedSimpArgs false
set_option maxRecDepth 100000

theorem ring_sat (vol nodes : Int) (live : List Bool) (σ : Sto) : SatCall Try.prog 22 [.int .i64 vol, .int .i64 nodes, .sl .sh 1 (live.map .bool)] σ fun x σ' =>
    x = .fn (.func 29) [] [.ptr (σ.length + 0) 0, .ptr (σ.length + 1) 0, .ptr (σ.length + 2) 0] ∧ σ' = σ ++ [.cells [.int .i64 vol], .cells [.int .i64 nodes], .cells [.sl .sh 1 (live.map .bool)]] := by
  refine sat_fn tab Try.func22 rfl (Nat.le_of_ble_eq_true rfl) (by decide) fun hso => sat_base ?_
  repeat' (first | (apply og_ops; (first | (apply og_assign; (apply op_assign (tt := tt); (focus ((conv => lhs; whnf); try exact rfl)); exact rfl)) | (apply og_makeFunc; (apply op_lk; (apply lk_makeFunc (tt := tt); exact rfl; exact rfl; (focus ((conv => lhs; whnf); try exact rfl))); (intro c h; cases h); exact rfl)) | (apply og_box; (apply op_boxX (tt := tt); (focus ((conv => lhs; whnf); try exact rfl)); exact rfl; (first | exact (rfl : _ = 0) | exact (rfl : _ = 1) | exact (rfl : _ = 2)); exact rfl)) | (apply ops_nil))) | (apply og_sat; (first | (apply sat_seq) | (apply sat_region) | (apply sat_ret))) | (apply pe_norm))
  change fnPost _ _ _ _ _ _ _
  refine fn_endA _ (.fn (.func 29) [] [.ptr (σ.length + 0) 0, .ptr (σ.length + 1) 0, .ptr (σ.length + 2) 0]) (.inr rfl) rfl rfl (Wk.same _) rfl ?_ ⟨rfl, rfl⟩
  simp [PV.lt, ltAll]

theorem ring_seq (vol nodes : Int) (live : List Bool) (pv pn pl : Nat) (σ : Sto) (h1 : σ[pv]? = some (.cells [.int .i64 vol])) (h2 : σ[pn]? = some (.cells [.int .i64 nodes])) (h3 : σ[pl]? = some (.cells [.sl .sh 1 (live.map .bool)])) :
    SatSeq Try.prog 29 [.ptr pv 0, .ptr pn 0, .ptr pl 0] σ (PV.int .i64) (ringP vol nodes live) := fun i J Jx s0 hk hy h0 =>
  ring1_sat i pv pn pl vol nodes live s0 J Jx (fun k s hJ => ⟨hk k s hJ _ _ h1, hk k s hJ _ _ h2, hk k s hJ _ _ h3⟩) hy h0

theorem appendSeq_sat {g : FuncId} {caps : List PV} {σ : Sto} {xs : List Int} (hg : Callable Try.prog g) (hseq : SatSeq Try.prog g caps σ (PV.int .i64) xs) (hlen : xs.length ≤ 1000000) (htup : (caps.all fun p => !p.isTup) = true) :
    SatCall Try.prog 28 [.sl .ow 1 [], .fn (.func g) [] caps] σ fun x σ' => x = .sl .ow 1 (xs.map (.int .i64)) ∧ σ' = σ := by
  refine sat_fn tab Try.func28 rfl (Nat.le_of_ble_eq_true rfl) (by decide) fun hso => sat_base ?_
  repeat' (first | (apply og_ops; (first | (apply og_move; (apply op_move (tt := tt); (focus ((conv => lhs; whnf); try exact rfl)); exact rfl)) | (apply og_assign; (apply op_nil (tt := tt); exact rfl; exact ltn rfl)) | (apply og_box; (apply op_boxTX; (focus ((conv => lhs; whnf); try exact rfl)); exact rfl; (exact (rfl : _ = 0)); exact rfl)) | (apply ops_nil))) | (apply og_sat; (first | (apply sat_seq) | (apply sat_region) | (apply sat_block))) | (apply pe_norm))
  refine sat_range (tt := tt) [(2, .ptr (σ.length + 0) 0)] hg rfl (SubL.at ⟨⟨rfl, rfl⟩, trivial⟩) (by simpa using htup) fun rcd hsz hpar has hbody => ?_
  have hi : (σ ++ ([] ++ [Ent.cells [PV.sl .ow 1 []]])).length = σ.length + 1 := by simp
  refine ⟨fun r s' => s' = σ ++ [.cells [.sl .ow 1 (xs.map (.int .i64))], .loop .ready none rcd [(2, .ptr (σ.length + 0) 0)]], ?_, ?_⟩
  · rw [hi]
    refine (hseq (σ.length + 1) (fun pre s => s = σ ++ [.cells [.sl .ow 1 (pre.map (.int .i64))], .loop .ready none rcd [(2, .ptr (σ.length + 0) 0)]]) (fun _ => False) _ ?_ ?_ (by simp)).mono fun r s' h => h.resolve_right id
    · rintro k s rfl j e he; exact getL he
    · rintro pre v suf s hx rfl
      refine yield_of (getX 1) hsz (by rw [hpar]; rfl) (by rw [hpar]; decide) (by simp [PV.isS]) fun l => ?_
      rw [has, hbody, hpar]
      repeat' (first | (apply og_ops; (first | (apply og_assign; (apply op_assign (tt := tt); (focus ((conv => lhs; whnf); try exact rfl)); exact rfl)) | (apply ops_nil))) | (apply og_sat; (apply sat_region)))
      refine ⟨rfl, rfl, ?_⟩
      rw [setX]
      have hpl : pre.length + 1 ≤ xs.length := by rw [hx]; simp
      repeat' (first | (apply og_ops; (first | (apply og_move; (apply op_move (tt := tt); (focus ((conv => lhs; whnf); try exact rfl)); exact rfl)) | (apply og_load; (apply op_loadTX tab (d := 8); exact rfl; exact rfl; exact rfl; exact rfl; exact rfl; exact rfl; exact rfl)) | (apply og_callb; (apply op_appendX tab; (focus ((conv => lhs; whnf); try exact rfl)); exact rfl; exact rfl; exact rfl; exact rfl; exact rfl; (focus ((conv => lhs; whnf); try exact rfl)); exact rfl; (simp only [List.length_map, List.length_append, List.length_cons, List.length_nil, List.length_take]; omega); (exact rfl); exact rfl)) | (apply og_store; (apply op_storeTX tab; exact rfl; exact rfl; exact rfl; exact rfl; (focus ((conv => lhs; whnf); try exact rfl)); exact rfl; exact rfl; (intro h; cases h))) | (apply og_buildSlice; (apply op_buildSliceX .ow tab; exact rfl; (focus ((repeat (apply opvs_cons; (focus ((conv => lhs; whnf); try exact rfl)))); exact opvs_nil)); exact rfl; exact rfl; exact rfl; exact rfl; exact rfl; exact rfl)) | (apply ops_nil))) | (apply og_sat; (first | (apply sat_region) | (apply sat_block))) | (apply pb_norm))
      refine ⟨getX 1, .inl ⟨rfl, ?_⟩⟩
      rw [setX]
      simp
  · rintro r s' rfl
    rw [hi]
    refine ⟨.ready, none, getX 1, by decide, ?_⟩
    simp only
    rw [setX]
    repeat' (first | (apply og_ops; (first | (apply og_assign; (apply op_take (.inl rfl); (focus ((conv => lhs; whnf); try exact rfl)); exact rfl; exact ltn rfl)) | (apply og_load; (apply op_loadTX tab (d := 12); exact rfl; exact rfl; exact rfl; exact rfl; exact rfl; exact rfl; exact rfl)) | (apply ops_nil))) | (apply og_sat; (first | (apply sat_seq) | (apply sat_region) | (apply sat_ret))) | (apply pe_norm) | (apply pb_norm))
    (change fnPost _ _ _ _ _ _ _; apply fn_end1; (exact .inr rfl); exact rfl; (focus ((conv => lhs; whnf); try exact rfl)); exact Wk.same _; exact rfl; exact rfl; exact Nat.le_refl _; exact trivial; exact hso)
    exact ⟨rfl, rfl⟩

theorem collect_sat {g : FuncId} {caps : List PV} {σ : Sto} {xs : List Int} (hg : Callable Try.prog g) (hseq : SatSeq Try.prog g caps σ (PV.int .i64) xs) (hlen : xs.length ≤ 1000000) (htup : (caps.all fun p => !p.isTup) = true) :
    SatCall Try.prog 21 [.fn (.func g) [] caps] σ fun x σ' => x = .sl .ow 1 (xs.map (.int .i64)) ∧ σ' = σ := by
  refine sat_fn tab Try.func21 rfl (Nat.le_of_ble_eq_true rfl) (by decide) fun hso => ?_
  repeat' (first | (apply og_ops; (first | (apply og_move; (apply op_move (tt := tt); (focus ((conv => lhs; whnf); try exact rfl)); exact rfl)) | (apply og_assign; (apply op_nil (tt := tt); exact rfl; exact ltn rfl)) | (apply ops_nil))) | (apply og_sat; (first | (apply sat_seq) | (apply sat_region))) | (apply pe_norm))
  refine op_callP (tt := tt) cal28 (appendSeq_sat hg hseq hlen htup) rfl rfl rfl rfl rfl ?_
  repeat' (first | (apply og_ops; (first | (apply og_assign; (apply op_take (.inl rfl); (focus ((conv => lhs; whnf); try exact rfl)); exact rfl; exact ltn rfl)) | (apply ops_nil))) | (apply og_sat; (apply sat_ret)) | (apply pe_norm))
  (change fnPost _ _ _ _ _ _ _; apply fn_end1; (exact .inr rfl); exact rfl; (focus ((conv => lhs; whnf); try exact rfl)); exact Wk.same _; exact rfl; exact (List.append_nil _).symm; exact Nat.le_refl _; exact trivial; exact hso)
  exact ⟨rfl, rfl⟩

theorem ringTo_len (vol nodes : Int) (live : List Bool) (j : Nat) : (ringTo vol nodes live j).length ≤ j := by
  refine Nat.le_trans (List.length_filter_le _ _) ?_
  simp

theorem ringP_len (vol nodes : Int) (live : List Bool) : (ringP vol nodes live).length ≤ 64 := by
  unfold ringP
  split
  · simp
  · have := ringTo_len vol nodes live nodes.toNat
    omega

theorem Ring_sat (vol nodes : Int) (live : List Bool) (σ : Sto) : SatCall Try.prog 10 [.int .i64 vol, .int .i64 nodes, .sl .sh 1 (live.map .bool)] σ fun x σ' => x = .sl .ow 1 ((ringP vol nodes live).map (.int .i64)) ∧ σ' = σ := by
  refine sat_fn tab Try.func10 rfl (Nat.le_of_ble_eq_true rfl) (by decide) fun hso => ?_
  repeat' (first | (apply og_ops; (first | (apply og_move; (apply op_move (tt := tt); (focus ((conv => lhs; whnf); try exact rfl)); exact rfl)) | (apply og_assign; (apply op_nil (tt := tt); exact rfl; exact ltn rfl)) | (apply ops_nil))) | (apply og_sat; (first | (apply sat_seq) | (apply sat_region))) | (apply pe_norm))
  refine op_call0 (tt := tt) (hc := ring_sat _ _ _ _) cal22 rfl rfl rfl rfl rfl ?_
  rintro _ _ ⟨rfl, rfl⟩
  refine op_callP (tt := tt) cal21 (collect_sat cal29 (ring_seq vol nodes live _ _ _ _ (getX 0) (getX 1) (getX 2)) (Nat.le_trans (ringP_len _ _ _) (by decide)) rfl) rfl rfl rfl rfl rfl ?_
  repeat' (first | (apply og_ops; (first | (apply og_assign; (apply op_take (.inl rfl); (focus ((conv => lhs; whnf); try exact rfl)); exact rfl; exact ltn rfl)) | (apply ops_nil))) | (apply og_sat; (apply sat_ret)) | (apply pe_norm))
  (change fnPost _ _ _ _ _ _ _; apply fn_end1; (exact .inr rfl); exact rfl; (focus ((conv => lhs; whnf); try exact rfl)); exact Wk.same _; exact rfl; exact rfl; exact Nat.le_refl _; exact trivial; exact hso)
  exact ⟨rfl, rfl⟩

end Go.Proofs.Ytilfahfadlijcaa.Pv
