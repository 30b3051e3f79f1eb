/- Rows of one thing; mirrors; which nodes live. -/
import Derived.Test.YtenmnbjhebmpjaaPlnB
namespace Go.Proofs.Ytenmnbjhebmpjaa.Pv
open Go
set_option linter.unusedVariables false
set_option linter.unusedSimpArgs false
set_option maxRecDepth 100000

theorem mul64_sat (k : Nat) (h : k ≤ 64) (σ : Sto) : SatCall Try.prog 90 [.int .u64 1, .int .u64 k] σ fun x σ' => x = .tup [.int .u64 0, .int .u64 k] ∧ σ' = σ := by
  refine sat_fn tab Try.func90 rfl (Nat.le_of_ble_eq_true rfl) (by decide) fun hso => ?_
  repeat' (first | (apply og_ops; (first | (apply og_move; (apply op_move (tt := tt); (focus ((conv => lhs; whnf); try exact rfl)); exact rfl)) | (apply og_assign; (apply op_assign (tt := tt); (focus ((conv => lhs; whnf); try exact rfl)); exact rfl)) | (apply og_bin; (first | (apply op_bin true tab; (focus ((conv => lhs; whnf; arg 1; whnf; arg 2; whnf); try exact rfl)); (first | exact trivial | omega | (simp only [InR]; omega)); exact rfl) | (apply op_bin false tab; (focus ((conv => lhs; whnf; arg 1; whnf; arg 2; whnf); try exact rfl)); (exact trivial); exact rfl))) | (apply ops_nil))) | (apply og_sat; (first | (apply sat_seq) | (apply sat_region) | (apply sat_ret))) | (apply pe_norm))
  (change fnPost _ _ _ _ _ _ _; apply fn_endN; (exact .inr rfl); (focus (repeat' (first | (apply rr_tmp; (focus ((conv => lhs; whnf); try exact rfl)); (exact Wk.same _)) | exact rr_nil))); exact rfl; (exact (List.append_nil _).symm); exact Nat.le_refl _; (focus (repeat' (first | exact trivial | refine ⟨?_, ?_⟩))); exact hso)
  refine ⟨?_, rfl⟩
  clear hso
  simp only [resOf, PV.tup.injEq, List.cons.injEq, PV.int.injEq, true_and, and_true]
  revert h
  revert k
  decide +kernel

theorem mul_sat (k : Nat) (h : k ≤ 64) (σ : Sto) : SatCall Try.prog 83 [.int .u64 1, .int .u64 k] σ fun x σ' => x = .tup [.int .u64 0, .int .u64 k] ∧ σ' = σ := by
  refine sat_fn tab Try.func83 rfl (Nat.le_of_ble_eq_true rfl) (by decide) fun hso => ?_
  repeat' (first | (apply og_ops; (first | (apply og_move; (apply op_move (tt := tt); (focus ((conv => lhs; whnf); try exact rfl)); exact rfl)) | (apply og_assign; (apply op_assign (tt := tt); (focus ((conv => lhs; whnf); try exact rfl)); exact rfl)) | (apply og_callv; (refine op_callP (tt := tt) cal90 (mul64_sat _ ?_ _) rfl rfl rfl rfl rfl ?_; (assumption))) | (apply og_extract; (apply op_extract (tt := tt); (focus ((conv => lhs; whnf; arg 1; whnf; arg 2; whnf); try exact rfl)); (exact trivial); exact rfl)) | (apply ops_nil))) | (apply og_sat; (first | (apply sat_seq) | (apply sat_region) | (apply sat_condc_f) | (apply sat_skip) | (apply sat_ret))) | (apply pe_norm))
  (change fnPost _ _ _ _ _ _ _; apply fn_endN; (exact .inr rfl); (focus (repeat' (first | (apply rr_tmp; (focus ((conv => lhs; whnf); try exact rfl)); (exact Wk.same _)) | exact rr_nil))); exact rfl; (exact (List.append_nil _).symm); exact Nat.le_refl _; (focus (repeat' (first | exact trivial | refine ⟨?_, ?_⟩))); exact hso)
  exact ⟨rfl, rfl⟩

theorem frz_bsl {α : Type} {f : α → PV} (h1 : ∀ x, (f x).cells = [f x]) {i cap : Nat} {xs : List α} : Frz i (xs.map f) (.sl .sh 1 (xs.map f)) (.bsl i 0 1 xs.length cap) := by
  have hf : flat (xs.map f) = xs.map f := by
    induction xs with
    | nil => rfl
    | cons x r ih => simp only [List.map_cons, flat, h1, ih]; rfl
  refine .inr (.inr ⟨0, 1, xs.length, cap, xs.map f, .inl rfl, rfl, by simp, fun e he => ?_, by simp, fun j c hc => ?_⟩)
  · obtain ⟨x, _, rfl⟩ := List.mem_map.1 he
    rw [h1]; rfl
  · rw [hf] at hc; simpa using hc

/-- So many yes, the rest no. -/
def upTo (k d : Nat) : List Bool := List.replicate d true ++ List.replicate (k - d) false
theorem upTo_len {k d : Nat} (h : d ≤ k) : (upTo k d).length = k := by simp [upTo]; omega
theorem upTo_get {k d : Nat} (h : d ≤ k) (j : Nat) : (upTo k d)[j]? = if j < d then some true else if j < k then some false else none := by
  unfold upTo
  by_cases h1 : j < d
  · rw [if_pos h1, List.getElem?_append_left (by simpa using h1), List.getElem?_replicate, if_pos h1]
  · rw [if_neg h1, List.getElem?_append_right (by simp; omega), List.length_replicate, List.getElem?_replicate]
    by_cases h2 : j < k
    · rw [if_pos h2, if_pos (by omega)]
    · rw [if_neg h2, if_neg (by omega)]
theorem ovl_yes {k d q : Nat} (h : d + q ≤ k) : ovl (upTo k d) d (List.replicate q true) = upTo k (d + q) := by
  refine List.ext_getElem? fun j => ?_
  rw [ovl_get (by rw [List.length_replicate, upTo_len (by omega)]; exact h), upTo_get (by omega), upTo_get h, List.length_replicate, List.getElem?_replicate]
  by_cases h1 : j < d
  · rw [if_neg (by omega), if_pos h1, if_pos (by omega)]
  · by_cases h2 : j < d + q
    · rw [if_pos ⟨by omega, h2⟩, if_pos (by omega), if_pos h2]
    · rw [if_neg (by omega), if_neg h1, if_neg h2]
theorem upTo_copy {k d : Nat} (h : d ≤ k) : ovl (upTo k d) d ((((upTo k d).drop 0).take d).take (k - d)) = upTo k (d + min d (k - d)) := by
  have e1 : ((upTo k d).drop 0).take d = List.replicate d true := by
    rw [List.drop_zero, upTo, List.take_append_of_le_length (by simp), List.take_of_length_le (by simp)]
  rw [e1, List.take_replicate, Nat.min_comm d, ovl_yes (by omega)]
theorem ovl0 {k : Nat} : ovl (List.replicate k false) 0 ([true].take k) = upTo k (min 1 k) := by
  have e1 : List.replicate k false = upTo k 0 := by simp [upTo]
  have e2 : [true].take k = List.replicate (min k 1) true := List.take_replicate (n := 1) (a := true)
  rw [e1, e2, ovl_yes (by omega), Nat.zero_add, Nat.min_comm]

theorem repeat_sat (k : Nat) (h : k ≤ 64) (σ : Sto) : SatCall Try.prog 71 [.sl .sh 1 ([true].map .bool), .int .i64 k] σ fun x σ' => x = .sl .sh 1 ((List.replicate k true).map .bool) ∧ σ' = σ := by
  refine sat_fn tab Try.func71 rfl (Nat.le_of_ble_eq_true rfl) (by decide) fun hso => sat_base ?_
  have hm := mul_sat k h
  have c1 : decide ((k : Int) < 0) = false := decide_eq_false (by omega)
  have c2 : decide ((9223372036854775807 : Int) < (k : Int)) = false := decide_eq_false (by omega)
  repeat' (first | (apply og_ops; (first | (apply og_guard; (apply ops_guard_t; exact (rfl : _ = some _); exact (rfl : _ = PV.bool _); (exact rfl))) | (apply og_move; (apply op_move (tt := tt); (focus ((conv => lhs; whnf); try exact rfl)); exact rfl)) | (apply og_assign; (first | (apply op_nil (tt := tt); exact rfl; exact ltn rfl) | (apply op_assign (tt := tt); (focus ((conv => lhs; whnf); try exact rfl)); exact rfl))) | (apply og_callv; (refine op_callP (tt := tt) cal83 (hm _) rfl rfl rfl rfl rfl ?_)) | (apply og_bin; (apply op_bin true tab; (focus ((conv => lhs; whnf; arg 1; whnf; arg 2; whnf); try exact rfl)); (exact trivial); exact rfl)) | (apply og_pick; (apply op_pick (tt := tt); exact (rfl : _ = PV.bool _); (refine .inr ⟨rfl, ?_⟩); (focus ((conv => lhs; whnf); try exact rfl)); exact ltn rfl)) | (apply og_callb; (apply op_len tab; (focus ((conv => lhs; whnf; arg 1; whnf; arg 2; whnf); try exact rfl)); (exact trivial); exact rfl)) | (apply og_conv; (first | (apply op_conv true tab; (focus ((conv => lhs; whnf; arg 1; whnf; arg 2; whnf); try exact rfl)); (simp only [InR]; omega); exact rfl) | (apply op_conv false tab; (focus ((conv => lhs; whnf; arg 1; whnf; arg 2; whnf); try exact rfl)); (exact trivial); exact rfl))) | (apply og_extract; (apply op_extract (tt := tt); (focus ((conv => lhs; whnf; arg 1; whnf; arg 2; whnf); try exact rfl)); (exact trivial); exact rfl)) | (apply og_makeSlice; (apply op_makeMX _ _ tab; exact rfl; exact rfl; exact rfl; (focus ((conv => lhs; whnf); try exact rfl)); (focus ((conv => lhs; whnf); try exact rfl)); exact rfl; exact rfl; (omega); (exact (rfl : _ = 0)); exact rfl)) | (apply ops_nil))) | (apply og_sat; (first | (apply sat_seq) | (apply sat_region) | (apply sat_cond_f; exact rfl; (first | exact rfl | assumption)) | (apply sat_skip))) | (apply pe_norm))
  apply op_copyMX PV.bool (fun _ => rfl) (fun _ => rfl) (fun _ => rfl) tab
  · rfl
  · rfl
  · (focus ((conv => lhs; whnf); try exact rfl))
  · exact (rfl : _ = some (Ent.cells (List.map _ _)))
  · (focus ((conv => lhs; whnf); try exact rfl))
  · exact srcM_sl
  · (simp [*]; done)
  · rfl
  repeat' (first | (apply og_ops; (first | (apply og_assign; (apply op_assign (tt := tt); (focus ((conv => lhs; whnf); try exact rfl)); exact rfl)) | (apply ops_nil))) | (apply og_sat; (first | (apply sat_seq) | (apply sat_block))) | (apply pe_norm))
  refine sat_loopD (fun d : Nat => [(7, .bsl (σ.length + 0) 0 1 k k), (8, .int .i64 d)]) (fun d => σ ++ [.cells ((upTo k d).map .bool)]) (fun d => d ≤ k ∧ (0 < k → 0 < d)) (fun d => k - d) (min 1 k) ⟨by omega, by omega⟩ ?_ ?_ ?_
  · (repeat' (first | exact trivial | exact Wk.same _ | refine ⟨?_, ?_⟩))
  · rw [ovl0]; rfl
  rintro d ⟨hd, hpos⟩
  have hul := upTo_len hd
  rcases Nat.lt_or_ge d k with hlt | hge
  · have d1 : decide ((d : Int) < (k : Int)) = true := decide_eq_true (by omega)
    repeat' (first | (apply og_ops; (first | (apply og_move; (apply op_move (tt := tt); (focus ((conv => lhs; whnf); try exact rfl)); exact rfl)) | (apply og_assign; (apply op_assign (tt := tt); (focus ((conv => lhs; whnf); try exact rfl)); exact rfl)) | (apply og_bin; (apply op_bin true tab; (focus ((conv => lhs; whnf; arg 1; whnf; arg 2; whnf); try exact rfl)); (first | exact trivial | (simp only [InR]; omega)); exact rfl)) | (apply og_callb; (first | (apply op_copyMX PV.bool (fun _ => rfl) (fun _ => rfl) (fun _ => rfl) tab; exact rfl; exact rfl; (focus ((conv => lhs; whnf); try exact rfl)); (exact (rfl : _ = some (Ent.cells (List.map _ _)))); (focus ((conv => lhs; whnf); try exact rfl)); (apply srcM_boxX; exact rfl; (omega)); (omega); exact rfl) | (apply op_len tab; (focus ((conv => lhs; whnf; arg 1; whnf; arg 2; whnf); try exact rfl)); (exact trivial); exact rfl))) | (apply og_slice; (apply op_lk; (apply lk_sliceB tab; exact rfl; (focus ((conv => lhs; whnf); try exact rfl)); exact rfl; exact rfl; (focus ((conv => lhs; whnf); try exact rfl)); (focus ((conv => lhs; whnf); try exact rfl)); (focus ((conv => lhs; whnf); try exact rfl)); (omega)); (intro c h; cases h); exact rfl)) | (apply ops_nil))) | (apply og_sat; (first | (apply sat_seq) | (apply sat_region) | (apply sat_cond_t; exact rfl; (assumption)) | (apply sat_skip) | (apply sat_block) | (apply sat_drawG1 (id := 9) (k := 8) (keys := [[38], [39], [40], [41], [42], [43], [44], [45]]) (j := 7); exact mixed; decide +kernel; decide +kernel))) | (apply pe_norm) | (apply pb_norm) | (first | (apply so_lk; (first | (apply lg_move; (apply lk_move (tt := tt); (focus ((conv => lhs; whnf); try exact rfl)))) | (apply lg_slice; (apply lk_sliceB tab; exact rfl; (focus ((conv => lhs; whnf); try exact rfl)); exact rfl; exact rfl; (focus ((conv => lhs; whnf); try exact rfl)); (focus ((conv => lhs; whnf); try exact rfl)); (focus ((conv => lhs; whnf); try exact rfl)); (omega)))); exact rfl; exact rfl) | (apply og_so; intro env0)) | (apply eg3; exact rfl; exact rfl; exact rfl) | (apply og_oth; (first | exact oth_nil | (apply oth_same; exact rfl) | (apply oth_no; decide +kernel) | (apply oth_yes))) | (apply og_dg; (first | (apply dg_n) | (apply dg_nil))) | (apply og_dj; (first | (apply dg_turn0_1; exact rfl; exact rfl) | (apply dg_step0_1; exact rfl; exact rfl; exact rfl; exact rfl))))
    refine ⟨d + min d (k - d), ⟨by omega, by omega⟩, by omega, ?_, ?_⟩
    · refine ⟨Wk.same _, Wk.eq ?_, trivial⟩
      (conv => rhs; whnf)
      simp [hul]
    · refine ⟨[], ?_, .inl rfl⟩
      have e1 := upTo_copy hd
      simp only [Int.toNat_natCast, Nat.mul_one, Nat.zero_add, Int.toNat_zero, Nat.sub_zero, List.append_nil] at e1 ⊢
      rw [← e1]; rfl
  · have d1 : decide ((d : Int) < (k : Int)) = false := decide_eq_false (by omega)
    have e : d = k := by omega
    subst e
    have eu : upTo d d = List.replicate d true := by simp [upTo]
    rw [eu]
    have d2 : decide ((d : Int) < ((List.replicate d true).length : Int)) = false := by simp
    refine sat_freeze [(7, .sl .sh 1 ((List.replicate d true).map .bool)), (8, .int .i64 d)] (σ ++ [.gone]) (i := σ.length) (rs := []) (by rw [List.append_nil]; exact get_last) ?_ ⟨?_, frz_same, trivial⟩ (by rw [set_last]; exact FrzS.refl _) ?_
    · intro c hc; obtain ⟨x, _, rfl⟩ := List.mem_map.1 hc; rfl
    · have := frz_bsl (f := PV.bool) (fun _ => rfl) (i := σ.length) (cap := d) (xs := List.replicate d true)
      rw [List.length_replicate] at this
      exact this
    repeat' (first | (apply og_ops; (first | (apply og_move; (apply op_move (tt := tt); (focus ((conv => lhs; whnf); try exact rfl)); exact rfl)) | (apply og_assign; (apply op_assign (tt := tt); (focus ((conv => lhs; whnf); try exact rfl)); exact rfl)) | (apply og_bin; (apply op_bin true tab; (focus ((conv => lhs; whnf; arg 1; whnf; arg 2; whnf); try exact rfl)); (exact trivial); exact rfl)) | (apply og_callb; (apply op_len tab; (focus ((conv => lhs; whnf; arg 1; whnf; arg 2; whnf); try exact rfl)); (exact trivial); exact rfl)) | (apply ops_nil))) | (apply og_sat; (first | (apply sat_seq) | (apply sat_region) | (apply sat_cond_f; exact rfl; (simp only [List.length_map]; assumption)) | (apply sat_ret) | (apply sat_exit))) | (apply pe_norm) | (apply pe_exit) | (apply pb_same))
    (change fnPost _ _ _ _ _ _ _; apply fn_endN; (exact .inr rfl); (focus (repeat' (first | (apply rr_tmp; (focus ((conv => lhs; whnf); try exact rfl)); (exact Wk.same _)) | exact rr_nil))); exact rfl; (exact rfl); exact Nat.le_refl _; (focus (repeat' (first | exact trivial | refine ⟨?_, ?_⟩))); exact hso)
    exact ⟨rfl, rfl⟩

end Go.Proofs.Ytenmnbjhebmpjaa.Pv
