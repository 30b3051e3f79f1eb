/- block.Split, and the plain one beside it. -/
import Derived.Test.YtecleclpakiocaaBlkA
namespace Go.Proofs.Ytecleclpakiocaa.Pv
open Go
set_option linter.unusedVariables false
set_option linter.unusedSimpArgs false
set_option maxRecDepth 100000

/-- The bytes, with zeros behind them. -/
def padI (zs : List Int) (N : Nat) : List Int := zs ++ List.replicate (N - zs.length) 0
theorem padI_len {zs : List Int} {N : Nat} (h : zs.length ≤ N) : (padI zs N).length = N := by simp [padI]; omega
theorem ovl_pad {zs : List Int} {N : Nat} (h : zs.length ≤ N) : ovl (List.replicate N 0) 0 (List.take N zs) = padI zs N := by
  rw [List.take_of_length_le h]; simp [ovl, padI]
theorem ovl_pad2 {zs : List Int} {N : Nat} (h : zs.length ≤ N) : ovl (padI zs N) zs.length (List.replicate (N - zs.length) 0) = padI zs N := by
  simp [ovl, padI]

/-- The pieces. -/
def piecesP (s : ByteArray) (m : Nat) : List ByteArray :=
  (List.range m).map fun i => ofI (((padI (bi s) ((s.size + m - 1) / m * m)).drop (i * ((s.size + m - 1) / m))).take ((s.size + m - 1) / m))
def splitP (s : ByteArray) (k : Int) : List ByteArray × Int := if k < 1 ∨ 32 < k then ([], 1) else (piecesP s k.toNat, 0)

theorem split_sat (s : ByteArray) (k : Int) (hs : s.size ≤ 2000000) (σ : Sto) : SatCall Try.prog 11 [.str s, .int .i64 k] σ fun x σ' => x = .tup [.sl .sh 1 ((splitP s k).1.map PV.str), .int .i64 (splitP s k).2] ∧ σ' = σ := by
  refine sat_fn tab Try.func11 rfl (Nat.le_of_ble_eq_true rfl) (by decide) fun hso => ?_
  by_cases h0 : k < 1
  · have c0 : decide (k < 1) = true := decide_eq_true h0
    repeat' (first | (apply og_ops; (first | (apply og_guard; (apply ops_guard_f'; exact (rfl : _ = some _); exact (rfl : _ = PV.bool _); (assumption); exact ltn rfl)) | (apply og_move; (apply op_move (tt := tt); (focus ((conv => lhs; whnf); try exact rfl)); exact rfl)) | (apply og_assign; (first | (apply op_nil (tt := tt); exact rfl; exact ltn rfl) | (apply op_assign (tt := tt); (focus ((conv => lhs; whnf); try exact rfl)); exact rfl))) | (apply og_bin; (apply op_bin true tab; (focus ((conv => lhs; whnf; arg 1; whnf; arg 2; whnf); try exact rfl)); (exact trivial); exact rfl)) | (apply og_pick; (apply op_pick (tt := tt); exact (rfl : _ = PV.bool _); (refine .inl ⟨by assumption, ?_⟩); (focus ((conv => lhs; whnf); try exact rfl)); exact ltn rfl)) | (apply ops_nil))) | (apply og_sat; (first | (apply sat_seq) | (apply sat_region) | (apply sat_cond_t; exact rfl; (exact rfl)) | (apply sat_ret))) | (apply pe_norm) | (apply pe_ret))
    (change fnPost _ _ _ _ _ _ _; apply fn_endN; (exact .inr rfl); (focus (repeat' (first | (apply rr_tmp; (focus ((conv => lhs; whnf); try exact rfl)); (first | exact Wk.sh | exact Wk.same _)) | exact rr_nil))); exact rfl; (exact (List.append_nil _).symm); exact Nat.le_refl _; (focus (repeat' (first | exact trivial | refine ⟨?_, ?_⟩))); exact hso)
    exact ⟨by rw [splitP, if_pos (.inl h0)]; rfl, rfl⟩
  have c0 : decide (k < 1) = false := decide_eq_false h0
  by_cases h1 : 32 < k
  · have c1 : decide (32 < k) = true := decide_eq_true h1
    repeat' (first | (apply og_ops; (first | (apply og_guard; (apply ops_guard_t; exact (rfl : _ = some _); exact (rfl : _ = PV.bool _); (assumption))) | (apply og_move; (apply op_move (tt := tt); (focus ((conv => lhs; whnf); try exact rfl)); exact rfl)) | (apply og_assign; (first | (apply op_nil (tt := tt); exact rfl; exact ltn rfl) | (apply op_assign (tt := tt); (focus ((conv => lhs; whnf); try exact rfl)); exact rfl))) | (apply og_bin; (apply op_bin true tab; (focus ((conv => lhs; whnf; arg 1; whnf; arg 2; whnf); try exact rfl)); (exact trivial); exact rfl)) | (apply og_pick; (apply op_pick (tt := tt); exact (rfl : _ = PV.bool _); (refine .inr ⟨by assumption, ?_⟩); (focus ((conv => lhs; whnf); try exact rfl)); exact ltn rfl)) | (apply ops_nil))) | (apply og_sat; (first | (apply sat_seq) | (apply sat_region) | (apply sat_cond_t; exact rfl; (assumption)) | (apply sat_ret))) | (apply pe_norm) | (apply pe_ret))
    (change fnPost _ _ _ _ _ _ _; apply fn_endN; (exact .inr rfl); (focus (repeat' (first | (apply rr_tmp; (focus ((conv => lhs; whnf); try exact rfl)); (first | exact Wk.sh | exact Wk.same _)) | exact rr_nil))); exact rfl; (exact (List.append_nil _).symm); exact Nat.le_refl _; (focus (repeat' (first | exact trivial | refine ⟨?_, ?_⟩))); exact hso)
    exact ⟨by rw [splitP, if_pos (.inr h1)]; rfl, rfl⟩
  have c1 : decide (32 < k) = false := decide_eq_false h1
  obtain ⟨m, rfl⟩ : ∃ m : Nat, k = m := ⟨k.toNat, by omega⟩
  obtain ⟨c, hc⟩ : ∃ c : Nat, c = (s.size + m - 1) / m := ⟨_, rfl⟩
  have hm : 0 < m := by omega
  have hcm : s.size ≤ c * m := by
    have h2 := Nat.div_add_mod (s.size + m - 1) m
    have h3 := Nat.mod_lt (s.size + m - 1) hm
    rw [← hc, Nat.mul_comm] at h2; omega
  have hcu : c * m ≤ s.size + m := by
    have h2 := Nat.div_mul_le_self (s.size + m - 1) m
    rw [← hc] at h2; omega
  have hcs : c ≤ 2000032 := by
    have h2 : c * 1 ≤ c * m := Nat.mul_le_mul_left c hm
    omega
  have q1 : IntKind.i64.wrap (((s.size : Int) + (m : Int) - 1).tdiv (m : Int)) = (c : Int) := by
    have e : (s.size : Int) + (m : Int) - 1 = ((s.size + m - 1 : Nat) : Int) := by omega
    rw [e, ← Int.ofNat_tdiv, ← hc]
    exact wrap_in (by simp only [InR]; omega)
  obtain ⟨N, hN⟩ : ∃ N : Nat, N = c * m := ⟨_, rfl⟩
  rw [← hN] at hcm hcu
  have q2 : IntKind.i64.wrap ((c : Int) * (m : Int)) = (N : Int) := by
    have : ((N : Nat) : Int) = (c : Int) * m := by rw [hN, Int.natCast_mul]
    rw [← this]
    exact wrap_in (by simp only [InR]; omega)
  repeat' (first | (apply og_ops; (first | (apply og_guard; (apply ops_guard_t; exact (rfl : _ = some _); exact (rfl : _ = PV.bool _); (assumption))) | (apply og_move; (apply op_move (tt := tt); (focus ((conv => lhs; whnf); try exact rfl)); exact rfl)) | (apply og_assign; (first | (apply op_nil (tt := tt); exact rfl; exact ltn rfl) | (apply op_assign (tt := tt); (focus ((conv => lhs; whnf); try exact rfl)); exact rfl))) | (apply og_bin; (first | (apply op_bin true tab; (focus ((conv => lhs; whnf; arg 1; whnf; arg 2; whnf); try exact rfl)); (first | exact trivial | (simp only [InR]; omega)); exact rfl) | (apply op_bin false tab; (focus ((conv => lhs; whnf; arg 1; whnf; arg 2; whnf); try exact rfl)); (first | exact trivial | omega); exact rfl))) | (apply og_pick; (apply op_pick (tt := tt); exact (rfl : _ = PV.bool _); (refine .inr ⟨by assumption, ?_⟩); (focus ((conv => lhs; whnf); try exact rfl)); exact ltn rfl)) | (apply og_callb; (apply op_len tab; (focus ((conv => lhs; whnf; arg 1; whnf; arg 2; whnf); try exact rfl)); (exact trivial); exact rfl)) | (apply ops_nil))) | (apply og_sat; (first | (apply sat_seq) | (apply sat_region) | (apply sat_cond_f; exact rfl; (assumption)) | (apply sat_skip))) | (apply pe_norm))
  rw [q1, q2]
  refine ops_sto (σ' := σ ++ []) (List.append_nil σ).symm ?_
  repeat' (first | (apply og_ops; (first | (apply og_move; (apply op_move (tt := tt); (focus ((conv => lhs; whnf); try exact rfl)); exact rfl)) | (apply og_assign; (apply op_assign (tt := tt); (focus ((conv => lhs; whnf); try exact rfl)); exact rfl)) | (apply og_makeSlice; (apply op_makeMX _ _ tab; exact rfl; exact rfl; exact rfl; (focus ((conv => lhs; whnf); try exact rfl)); (focus ((conv => lhs; whnf); try exact rfl)); exact rfl; exact rfl; (omega); (exact (rfl : _ = 0)); exact rfl)) | (apply ops_nil))) | (apply og_sat; (first | (apply sat_seq) | (apply sat_region))) | (apply pe_norm))
  rw [Int.toNat_natCast]
  have f1 : 0 + N ≤ (List.replicate N (0 : Int)).length := by simp
  repeat' (apply og_ops; (first | (apply og_callb; (apply op_copyMX (PV.int .u8) (fun _ => rfl) (fun _ => rfl) (fun _ => rfl) tab; exact rfl; exact rfl; (focus ((conv => lhs; whnf); try exact rfl)); (exact (rfl : _ = some (Ent.cells (List.map _ _)))); (focus ((conv => lhs; whnf); try exact rfl)); (exact srcM_str); (omega); exact rfl)) | (apply og_slice; (apply op_lk; (apply lk_sliceB tab; exact rfl; (focus ((conv => lhs; whnf); try exact rfl)); exact rfl; exact rfl; (focus ((conv => lhs; whnf); try exact rfl)); (focus ((conv => lhs; whnf); try exact rfl)); (focus ((conv => lhs; whnf); try exact rfl)); (omega)); (intro c h; cases h); exact rfl))))
  have hbl : (bi s).length ≤ N := by rw [bi_len]; exact hcm
  rw [ovl_pad hbl, Nat.min_eq_left hbl]
  have f2 : ∀ o, o ≤ N → o + (N - o) ≤ (padI (bi s) N).length := fun o ho => by rw [padI_len hbl]; omega
  have f3 := f2 (bi s).length hbl
  repeat' (first | (apply og_ops; (first | (apply og_move; (apply op_move (tt := tt); (focus ((conv => lhs; whnf); try exact rfl)); exact rfl)) | (apply og_assign; (apply op_take (.inl rfl); (focus ((conv => lhs; whnf); try exact rfl)); exact rfl; exact ltn rfl)) | (apply og_callb; (apply op_clearMX _ _ tab; exact rfl; exact rfl; exact rfl; exact rfl; exact rfl; (focus ((conv => lhs; whnf); try exact rfl)); (exact (rfl : _ = some (Ent.cells (List.map _ _)))); (omega))) | (apply og_makeSlice; (apply op_make0 tab; exact rfl; (focus ((conv => lhs; whnf); try exact rfl)); (focus ((conv => lhs; whnf); try exact rfl)); exact rfl; (omega); exact rfl)) | (apply ops_nil))) | (apply og_sat; (first | (apply sat_seq) | (apply sat_region) | (apply sat_block))) | (apply pe_norm))
  refine sat_sto (σ' := σ ++ [.cells ((padI (bi s) N).map (.int .u8))]) ?_ ?_
  · have := ovl_pad2 hbl
    simp only [Nat.zero_add, Nat.mul_one, Int.toNat_natCast]
    rw [this]; rfl
  obtain ⟨P, hP⟩ : ∃ P, P = piecesP s m := ⟨_, rfl⟩
  have hPl : P.length = m := by rw [hP]; simp [piecesP]
  have hPi : ∀ i, i < m → P.getD i default = ofI (((padI (bi s) N).drop (i * c)).take c) := fun i hi => by
    rw [hP, hN, hc]; simp [piecesP, List.getD, hi]
  refine sat_loopW (fun i : Nat => [(6, .int .i64 c), (7, .bsl (σ.length + 0) 0 1 N N), (8, .sl .ow 1 ((P.take i).map PV.str)), (34, .int .i64 m), (35, .int .i64 i)]) (fun _ => σ ++ [.cells ((padI (bi s) N).map (.int .u8))]) (fun i => i ≤ m) (fun i => m - i) 0 (Nat.zero_le _) ?_ rfl ?_
  · (repeat' (first | exact trivial | exact Wk.same _ | refine ⟨?_, ?_⟩))
  rintro i hi
  by_cases him : i < m
  · have d1 : decide ((i : Int) < (m : Int)) = true := decide_eq_true (by omega)
    obtain ⟨A, hA⟩ : ∃ A : Nat, A = i * c := ⟨_, rfl⟩
    have hAN : A + c ≤ N := by
      rw [hA, hN]
      have h2 : (i + 1) * c ≤ m * c := Nat.mul_le_mul_right c him
      rw [Nat.add_mul, Nat.one_mul] at h2
      rw [Nat.mul_comm c m]; exact h2
    have q3 : IntKind.i64.wrap ((i : Int) * (c : Int)) = (A : Int) := by
      have : ((A : Nat) : Int) = (i : Int) * c := by rw [hA, Int.natCast_mul]
      rw [← this]
      exact wrap_in (by simp only [InR]; omega)
    have q4 : IntKind.i64.wrap (((i : Int) + 1) * (c : Int)) = ((A + c : Nat) : Int) := by
      have : ((A + c : Nat) : Int) = ((i : Int) + 1) * c := by rw [Int.add_mul, Int.one_mul, hA]; omega
      rw [← this]
      exact wrap_in (by simp only [InR]; omega)
    have e3 : (i : Int) * (c : Int) = (A : Int) := by rw [hA, Int.natCast_mul]
    have e6 : P.take (i + 1) = P.take i ++ [P.getD i default] := by
      rw [List.take_succ_eq_append_getElem (by omega)]; simp [List.getD, show i < P.length by omega]
    repeat' (first | (apply og_ops; (first | (apply og_move; (first | (apply op_take (d := 38) (.inr rfl); (focus ((conv => lhs; whnf); try exact rfl)); exact rfl; exact ltn rfl) | (apply op_move (tt := tt); (focus ((conv => lhs; whnf); try exact rfl)); exact rfl))) | (apply og_assign; (first | (apply op_take (.inl rfl); (focus ((conv => lhs; whnf); try exact rfl)); exact rfl; exact ltn rfl) | (apply op_assign (tt := tt); (focus ((conv => lhs; whnf); try exact rfl)); exact rfl))) | (apply og_bin; (first | (apply op_bin true tab; (focus ((conv => lhs; whnf; arg 1; whnf; arg 2; whnf); try exact rfl)); (first | exact trivial | (simp only [InR]; omega)); exact rfl) | (apply op_bin false tab; (focus ((conv => lhs; whnf; arg 1; whnf; arg 2; whnf); try exact rfl)); (exact trivial); exact rfl))) | (apply og_callb; (apply op_appendX tab; (focus ((conv => lhs; whnf); try exact rfl)); exact rfl; exact rfl; exact rfl; exact rfl; exact rfl; (focus ((conv => lhs; whnf); try exact rfl)); exact rfl; (simp only [List.length_map, List.length_append, List.length_cons, List.length_nil, List.length_take]; omega); (exact rfl); exact rfl)) | (apply og_conv; (apply op_lk; (apply lk_bytesStr tab; exact rfl; exact rfl; exact rfl; exact rfl; (focus ((conv => lhs; whnf); try exact rfl)); (apply srcM_boxX; exact rfl; (omega)); exact rfl); (intro c h; cases h); exact rfl)) | (apply og_buildSlice; (apply op_buildSliceX .ow tab; exact rfl; (focus ((repeat (apply opvs_cons; (focus ((conv => lhs; whnf); try exact rfl)))); exact opvs_nil)); exact rfl; exact rfl; exact rfl; exact rfl; exact rfl; exact rfl)) | (apply og_slice; (apply op_lk; (apply lk_sliceB tab; exact rfl; (focus ((conv => lhs; whnf); try exact rfl)); exact rfl; exact rfl; (focus ((conv => lhs; whnf); try exact rfl)); (focus ((conv => lhs; whnf); try exact rfl)); (focus ((conv => lhs; whnf); try exact rfl)); (omega)); (intro c h; cases h); exact rfl)) | (apply ops_nil))) | (apply og_sat; (first | (apply sat_seq) | (apply sat_region) | (apply sat_cond_t; exact rfl; (assumption)) | (apply sat_skip) | (apply sat_block))) | (apply pe_norm) | (apply pb_norm))
    rw [q4, e3, Int.toNat_natCast, Int.toNat_natCast, show A + c - A = c by omega, Nat.zero_add, Nat.mul_one, hA, ← hPi i him]
    refine ⟨i + 1, by omega, by omega, ?_, rfl⟩
    rw [e6, List.map_append]
    (repeat' (first | exact trivial | exact Wk.same _ | refine ⟨?_, ?_⟩))
  · have d1 : decide ((i : Int) < (m : Int)) = false := decide_eq_false (by omega)
    have hi' : i = m := by omega
    subst hi'
    repeat' (first | (apply og_ops; (first | (apply og_move; (apply op_move (tt := tt); (focus ((conv => lhs; whnf); try exact rfl)); exact rfl)) | (apply og_assign; (apply op_assign (tt := tt); (focus ((conv => lhs; whnf); try exact rfl)); exact rfl)) | (apply og_bin; (apply op_bin true tab; (focus ((conv => lhs; whnf; arg 1; whnf; arg 2; whnf); try exact rfl)); (exact trivial); exact rfl)) | (apply ops_nil))) | (apply og_sat; (first | (apply sat_seq) | (apply sat_region) | (apply sat_cond_f; exact rfl; (assumption)) | (apply sat_ret) | (apply sat_exit))) | (apply pe_norm) | (apply pe_exit) | (apply pb_same))
    (change fnPost _ _ _ _ _ _ _; apply fn_endN; (exact .inr rfl); (focus (repeat' (first | (apply rr_tmp; (focus ((conv => lhs; whnf); try exact rfl)); (exact Wk.same _)) | exact rr_nil))); exact rfl; (exact rfl); exact Nat.le_refl _; (focus (repeat' (first | exact trivial | refine ⟨?_, ?_⟩))); exact hso)
    exact ⟨by rw [splitP, if_neg (by omega), Int.toNat_natCast, ← hP, List.take_of_length_le (by omega)]; rfl, rfl⟩

end Go.Proofs.Ytecleclpakiocaa.Pv
