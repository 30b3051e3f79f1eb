/- Indexes in the program itself: a name dropped. -/
import Derived.Test.YtbjmafbbjhoddaaLibImpA
import Derived.Test.YtbjmafbbjhoddaaLibImpB
import Derived.Test.YtbjmafbbjhoddaaPvZt
namespace Go.Proofs.Ytbjmafbbjhoddaa.Pv
open Go
set_option linter.unusedVariables false
set_option linter.unusedSimpArgs false
set_option maxRecDepth 100000

theorem put_del1 {α : Type} {f : α → PV} {sz : Nat} (hf : ∀ x, (f x).cells.length = sz) {xs : List α} {i : Nat} {r : List PV} (hi : i < xs.length) :
    putAt (flat (xs.map f) ++ r) (i * sz) (flat ((xs.drop (i + 1)).map f)) = flat ((xs.take i ++ xs.drop (i + 1)).map f) ++ ((flat ((xs.drop i).map f)).drop ((xs.length - (i + 1)) * sz) ++ r) := by
  have hn : (xs.length - (i + 1)) * sz ≤ (xs.length - i) * sz := Nat.mul_le_mul_right _ (by omega)
  rw [putAt_eq (A := flat ((xs.take i).map f)) (B := (flat ((xs.drop i).map f)).take ((xs.length - (i + 1)) * sz)) (C := (flat ((xs.drop i).map f)).drop ((xs.length - (i + 1)) * sz) ++ r)
    (by rw [fl_split (f := f) xs i, List.append_assoc, List.append_assoc, ← List.append_assoc (List.take _ _), List.take_append_drop])
    (by rw [fl_len hf, List.length_take, Nat.min_eq_left (by omega)])
    (by rw [fl_len hf, List.length_take, fl_len hf, List.length_drop, List.length_drop, Nat.min_eq_left hn])]
  rw [fl_app]
theorem put_del2 {α : Type} {f : α → PV} {sz : Nat} (hf : ∀ x, (f x).cells.length = sz) {ys : List α} {o : Nat} {B r zs : List PV} (ho : o = ys.length) (hz : zs.length = B.length) :
    putAt (flat (ys.map f) ++ (B ++ r)) (o * sz) zs = flat (ys.map f) ++ (zs ++ r) := by
  rw [putAt_eq (A := flat (ys.map f)) (B := B) (C := r) (by rw [List.append_assoc]) (by rw [fl_len hf, ho]) hz, List.append_assoc]
theorem deleteNm_sat (xs : List (Nm)) (i : Nat) (k c : Nat) (hi : i < xs.length) (hl : xs.length ≤ 1048576) (hc : xs.length ≤ c) (σ : Sto) (hk : σ[k]? = some (.cells (flat (xs.map nm) ++ room ((c - xs.length) * 5)))) :
    SatCall Try.prog 103 [.xsl k 0 5 xs.length c, .int .i64 i, .int .i64 ((i : Int) + 1)] σ fun x σ' => x = .sl .sh 5 ((xs.take i ++ xs.drop (i + 1)).map nm) ∧ σ' = σ.set k .gone := by
  refine sat_fn tab Try.func103 rfl (Nat.le_of_ble_eq_true rfl) (by decide) fun hso => ?_
  have hf : ∀ x, (nm x).cells.length = 5 := fun _ => rfl
  have hp : ∀ x, (nm x).pl = true := fun _ => rfl
  have hkl : k < σ.length := (List.getElem?_eq_some_iff.1 hk).1
  have c1 : ((i : Int) == (i : Int) + 1) = false := by rw [beq_eq_false_iff_ne]; omega
  have hll : (xs.take i ++ xs.drop (i + 1)).length = xs.length - 1 := by rw [List.length_append, List.length_take, List.length_drop]; omega
  have hes : ∀ e ∈ (xs.take i ++ xs.drop (i + 1)).map nm, e.cells.length = 5 := fun e he => by obtain ⟨x, _, rfl⟩ := List.mem_map.1 he; rfl
  repeat' (first | (apply og_ops; (first | (apply og_move; (apply op_move (tt := tt); (focus ((conv => lhs; whnf); try exact rfl)); exact rfl)) | (apply og_assign; (first | (apply op_nil (tt := tt); exact rfl; exact ltn rfl) | (apply op_assign (tt := tt); (focus ((conv => lhs; whnf); try exact rfl)); exact rfl))) | (apply og_bin; (apply op_bin true tab; (focus ((conv => lhs; whnf; arg 1; whnf; arg 2; whnf); try exact rfl)); (exact trivial); exact rfl)) | (apply og_callb; (apply op_len tab; (focus ((conv => lhs; whnf; arg 1; whnf; arg 2; whnf); try exact rfl)); (exact trivial); exact rfl)) | (apply og_slice; (apply op_lk; (apply lk_sliceX tab; exact rfl; (focus ((conv => lhs; whnf); try exact rfl)); exact rfl; exact rfl; (focus ((conv => lhs; whnf); try exact rfl)); (focus ((conv => lhs; whnf); try exact rfl)); (focus ((conv => lhs; whnf); try exact rfl)); (omega)); (intro c h; cases h); exact rfl)) | (apply ops_nil))) | (apply og_sat; (first | (apply sat_seq) | (apply sat_region) | (apply sat_cond_f; exact rfl; (assumption)) | (apply sat_skip) | (apply sat_drawC (k := 6); exact mixed; decide +kernel; decide +kernel))) | (apply pe_norm) | (apply og_dd; (first | (apply dd_lk; (first | (apply lg_move; (apply lk_move (tt := tt); (focus ((conv => lhs; whnf); try exact rfl)))) | (apply lg_slice; (apply lk_sliceX tab; exact rfl; (focus ((conv => lhs; whnf); try exact rfl)); exact rfl; exact rfl; (focus ((conv => lhs; whnf); try exact rfl)); (focus ((conv => lhs; whnf); try exact rfl)); (focus ((conv => lhs; whnf); try exact rfl)); (omega)))); exact rfl; exact rfl) | (apply dd_nil))))
  refine op_appendR tab rfl rfl rfl rfl (by show _ = PV.xsl k (0 * 5) 5 i c; (conv => lhs; whnf); simp only [PV.xsl.injEq, PV.int.injEq, List.length_map, List.length_cons, List.length_nil, Int.toNat_natCast, true_and, and_true]; omega) hk (by show _ = PV.xsl k ((i + 1) * 5) 5 (xs.length - (i + 1)) (c - (i + 1)); (conv => lhs; whnf); simp only [PV.xsl.injEq, PV.int.injEq, List.length_map, List.length_cons, List.length_nil, Int.toNat_natCast, true_and, and_true]; omega) (srcQ_row hf hp hk (i := i + 1) (q := xs.length - (i + 1)) (Nat.le_refl _) (by omega)) (by omega) (by rw [List.length_append, fl_len hf, room_len]; omega) (fl_all_one (fun _ => rfl) _) (fit_of rfl (by omega)) rfl ?_
  rw [show 0 * 5 + i * 5 = i * 5 by omega, List.take_of_length_le (by rw [List.length_drop]; exact Nat.le_refl _), put_del1 hf hi]
  repeat' (first | (apply og_ops; (first | (apply og_move; (apply op_move (tt := tt); (focus ((conv => lhs; whnf); try exact rfl)); exact rfl)) | (apply og_assign; (apply op_assign (tt := tt); (focus ((conv => lhs; whnf); try exact rfl)); exact rfl)) | (apply og_callb; (apply op_len tab; (focus ((conv => lhs; whnf; arg 1; whnf; arg 2; whnf); try exact rfl)); (exact trivial); exact rfl)) | (apply og_slice; (apply op_lk; (apply lk_sliceX tab; exact rfl; (focus ((conv => lhs; whnf); try exact rfl)); exact rfl; exact rfl; (focus ((conv => lhs; whnf); try exact rfl)); (focus ((conv => lhs; whnf); try exact rfl)); (focus ((conv => lhs; whnf); try exact rfl)); (omega)); (intro c h; cases h); exact rfl)) | (apply ops_nil))) | (apply og_sat; (first | (apply sat_seq) | (apply sat_region))) | (apply pe_norm))
  refine op_clearR tab rfl rfl rfl rfl (by show _ = PV.xsl k ((xs.length - 1) * 5) 5 1 (c - (xs.length - 1)); (conv => lhs; whnf); simp only [PV.xsl.injEq, PV.int.injEq, List.length_map, List.length_cons, List.length_nil, Int.toNat_natCast, true_and, and_true]; omega) (get_set hkl) (by rw [List.length_append, fl_len hf, hll, List.length_append, List.length_drop, fl_len hf, List.length_drop, room_len]; omega) ?_
  rw [put_del2 hf (by rw [hll]) (by rw [zerosL_len, List.length_drop, fl_len hf, List.length_drop]; omega), List.set_set]
  have hfr := frz_row (i := k) (cap := c) hes
  rw [List.length_map, hll] at hfr
  refine ops_freeze [(0, .sl .sh 5 ((xs.take i ++ xs.drop (i + 1)).map nm))] _ (get_set hkl) (flat_pl hp) ⟨Eq.subst (motive := fun p => Frz k _ _ p) (Eq.symm (by (conv => lhs; whnf); simp only [PV.xsl.injEq, PV.int.injEq, List.length_map, List.length_cons, List.length_nil, Int.toNat_natCast, true_and, and_true]; omega)) hfr, trivial⟩ (FrzS.refl _) ?_
  rw [List.set_set]
  repeat' (first | (apply og_ops; (first | (apply og_move; (apply op_move (tt := tt); (focus ((conv => lhs; whnf); try exact rfl)); exact rfl)) | (apply og_assign; (apply op_assign (tt := tt); (focus ((conv => lhs; whnf); try exact rfl)); exact rfl)) | (apply ops_nil))) | (apply og_sat; (first | (apply sat_seq) | (apply sat_region) | (apply sat_ret))) | (apply pe_norm))
  (change fnPost _ _ _ _ _ _ _; apply fn_endN; (exact .inr rfl); (focus (repeat' (first | (apply rr_tmp; (focus ((conv => lhs; whnf); try exact rfl)); (exact Wk.same _)) | exact rr_nil))); exact rfl; (exact (List.append_nil _).symm); (rw [List.length_set]; exact Nat.le_refl _); (focus (repeat' (first | exact trivial | refine ⟨?_, ?_⟩))); exact stoOK_gone hso _)
  · exact ⟨rfl, rfl⟩


set_option maxHeartbeats 2000000 in
theorem dropI_sat (x : Ix) (c : Cm) (hnl : x.names.length ≤ 1048576) (k5 : c.kind ≠ 5) (σ : Sto) : SatCall Try.prog 71 [ix x, cm c] σ fun r σ' => r = .tup [ix (namesP x c).1, rp (namesP x c).2] ∧ σ' = σ := by
  refine sat_fn tab Try.func71 rfl (Nat.le_of_ble_eq_true rfl) (by decide) fun hso => sat_base ?_
  have v1 := name_sat x c.name hnl
  unfold namesP
  by_cases h0 : nameI x c.name < 0
  · rw [if_pos h0]
    have c0 : decide (nameI x c.name < 0) = true := decide_eq_true h0
    repeat' (first | (apply og_ops; (first | (apply og_move; (apply op_move (tt := tt); (focus ((conv => lhs; whnf); try exact rfl)); exact rfl)) | (apply og_assign; (apply op_assign (tt := tt); (focus ((conv => lhs; whnf); try exact rfl)); exact rfl)) | (apply og_callv; (refine op_callP (tt := tt) cal42 (v1 _) rfl rfl rfl rfl rfl ?_)) | (apply og_bin; (apply op_bin true tab; (focus ((conv => lhs; whnf; arg 1; whnf; arg 2; whnf); try exact rfl)); (exact trivial); exact rfl)) | (apply og_load; (apply op_lk; (apply lk_loadX tab; exact rfl; exact rfl; exact rfl; (focus ((conv => lhs; whnf; arg 1; whnf; arg 2; whnf); try skip)); (first | exact trivial | exact Nat.le_of_ble_eq_true rfl)); (intro c h; cases h); exact rfl)) | (apply og_fieldAddr; (apply op_lk; (apply lk_fieldAddrB tab; exact rfl; (focus ((conv => lhs; whnf); try exact rfl)); exact rfl; (exact (rfl : _ = 3))); (intro c h; cases h); exact rfl)) | (apply og_extract; (apply op_extract (tt := tt); (focus ((conv => lhs; whnf; arg 1; whnf; arg 2; whnf); try exact rfl)); (exact trivial); exact rfl)) | (apply og_store; (apply op_storeX tab; exact rfl; exact rfl; exact rfl; exact rfl; exact rfl; exact rfl; exact rfl; exact rfl)) | (apply og_build; (apply op_lk; (apply lk_build tab; exact rfl; (focus ((conv => lhs; whnf; arg 1; whnf; arg 2; whnf); try skip))); (intro c h; cases h); exact rfl)) | (apply og_alloc; (apply op_allocX tab; exact rfl; exact rfl; (first | exact (rfl : _ = 2) | exact (rfl : _ = 3) | exact (rfl : _ = 4)); exact rfl)) | (apply og_box; (apply op_boxX (tt := tt); (focus ((conv => lhs; whnf); try exact rfl)); exact rfl; (first | exact (rfl : _ = 0) | exact (rfl : _ = 1)); exact rfl)) | (apply ops_nil))) | (apply og_sat; (first | (apply sat_seq) | (apply sat_region) | (apply sat_cond_t; exact rfl; (assumption)) | (apply sat_ret))) | (apply pe_norm) | (apply pe_ret))
    (change fnPost _ _ _ _ _ _ _; apply fn_endN; (exact .inr rfl); (focus (repeat' (first | (apply rr_cell; exact rfl; exact rfl; exact rfl; (focus ((conv => lhs; whnf; arg 1; whnf; arg 2; whnf); try skip)); (exact Nat.le_of_ble_eq_true rfl)) | exact rr_nil))); exact rfl; (exact rfl); exact Nat.le_refl _; (focus (repeat' (first | exact trivial | refine ⟨?_, ?_⟩))); exact hso)
    exact ⟨rfl, rfl⟩
  rw [if_neg h0, if_neg k5]
  have c0 : decide (nameI x c.name < 0) = false := decide_eq_false h0
  have i0 : 0 ≤ nameI x c.name := by omega
  have i1 : (nameI x c.name).toNat < x.names.length := idxI_ltL (p := (fun n : Nm => beqS n.name c.name)) (xs := x.names) i0
  generalize nameP x c.name = v at *
  generalize nameI x c.name = q at *
  obtain ⟨k, rfl⟩ := Int.eq_ofNat_of_zero_le i0
  rw [Int.toNat_natCast] at *
  have hC := fun ex : Sto => cloneNmR_sat x.names hnl (σ ++ ex)
  simp only [List.length_append, List.append_assoc] at hC
  repeat' (first | (apply og_ops; (first | (apply og_move; (apply op_move (tt := tt); (focus ((conv => lhs; whnf); try exact rfl)); exact rfl)) | (apply og_assign; (apply op_assign (tt := tt); (focus ((conv => lhs; whnf); try exact rfl)); exact rfl)) | (apply og_callv; (refine op_callP (tt := tt) cal42 (v1 _) rfl rfl rfl rfl rfl ?_)) | (apply og_bin; (apply op_bin true tab; (focus ((conv => lhs; whnf; arg 1; whnf; arg 2; whnf); try exact rfl)); (exact trivial); exact rfl)) | (apply og_load; (apply op_lk; (apply lk_loadX tab; exact rfl; exact rfl; exact rfl; (focus ((conv => lhs; whnf; arg 1; whnf; arg 2; whnf); try skip)); (first | exact trivial | exact Nat.le_of_ble_eq_true rfl)); (intro c h; cases h); exact rfl)) | (apply og_fieldAddr; (apply op_lk; (apply lk_fieldAddrB tab; exact rfl; (focus ((conv => lhs; whnf); try exact rfl)); exact rfl; (first | exact (rfl : _ = 1) | exact (rfl : _ = 3))); (intro c h; cases h); exact rfl)) | (apply og_extract; (apply op_extract (tt := tt); (focus ((conv => lhs; whnf; arg 1; whnf; arg 2; whnf); try exact rfl)); (exact trivial); exact rfl)) | (apply og_store; (apply op_storeX tab; exact rfl; exact rfl; exact rfl; exact rfl; exact rfl; exact rfl; exact rfl; exact rfl)) | (apply og_alloc; (apply op_allocX tab; exact rfl; exact rfl; (first | exact (rfl : _ = 2) | exact (rfl : _ = 3) | exact (rfl : _ = 4)); exact rfl)) | (apply og_box; (apply op_boxX (tt := tt); (focus ((conv => lhs; whnf); try exact rfl)); exact rfl; (first | exact (rfl : _ = 0) | exact (rfl : _ = 1)); exact rfl)) | (apply ops_nil))) | (apply og_sat; (first | (apply sat_seq) | (apply sat_region) | (apply sat_cond_f; exact rfl; (exact rfl)) | (apply sat_skip))) | (apply pe_norm))
  refine op_callR (tt := tt) cal102 (hC _) rfl rfl rfl rfl rfl ?_
  rintro r σ' (⟨he, rfl, rfl⟩ | ⟨cp, hcp, rfl, rfl⟩)
  · rw [he] at i1; exact absurd i1 (Nat.not_lt_zero _)
  · repeat' (apply og_ops; (first | (apply og_move; (apply op_move (tt := tt); (focus ((conv => lhs; whnf); try exact rfl)); exact rfl)) | (apply og_bin; (apply op_bin true tab; (focus ((conv => lhs; whnf; arg 1; whnf; arg 2; whnf); try exact rfl)); (simp only [InR]; omega); exact rfl))))
    refine op_callR (tt := tt) cal103 (deleteNm_sat x.names k (σ.length + 5) cp i1 hnl hcp _ (getX 5)) rfl rfl rfl rfl rfl ?_
    rintro r σ' ⟨rfl, rfl⟩
    refine ops_sto (setX (τ := σ) 5 .gone) ?_
    repeat' (first | (apply og_ops; (first | (apply og_load; (apply op_lk; (apply lk_loadX tab; exact rfl; exact rfl; exact rfl; (focus ((conv => lhs; whnf; arg 1; whnf; arg 2; whnf); try skip)); (exact Nat.le_of_ble_eq_true rfl)); (intro c h; cases h); exact rfl)) | (apply og_fieldAddr; (apply op_lk; (apply lk_fieldAddrB tab; exact rfl; (focus ((conv => lhs; whnf); try exact rfl)); exact rfl; (exact (rfl : _ = 1))); (intro c h; cases h); exact rfl)) | (apply og_store; (apply op_storeX tab; exact rfl; exact rfl; exact rfl; exact rfl; exact rfl; exact rfl; exact rfl; exact rfl)) | (apply og_build; (apply op_lk; (apply lk_build tab; exact rfl; (focus ((conv => lhs; whnf; arg 1; whnf; arg 2; whnf); try skip))); (intro c h; cases h); exact rfl)) | (apply ops_nil))) | (apply og_sat; (first | (apply sat_seq) | (apply sat_region) | (apply sat_ret))) | (apply pe_norm))
    (change fnPost _ _ _ _ _ _ _; apply fn_endN; (exact .inr rfl); (focus (repeat' (first | (apply rr_cell; exact rfl; exact rfl; exact rfl; (focus ((conv => lhs; whnf; arg 1; whnf; arg 2; whnf); try skip)); (exact Nat.le_of_ble_eq_true rfl)) | exact rr_nil))); exact rfl; (exact rfl); exact Nat.le_refl _; (focus (repeat' (first | exact trivial | refine ⟨?_, ?_⟩))); exact hso)
    exact ⟨rfl, rfl⟩

end Go.Proofs.Ytbjmafbbjhoddaa.Pv
