/- An acceptor's bytes. -/
import Derived.Test.YtflgoabdgibphaaAccC
import Derived.Test.YtflgoabdgibphaaLibVlq
import Derived.Test.YtflgoabdgibphaaLibTake
/- BUILD -/
namespace Go.Proofs.Ytflgoabdgibphaa.Pv
open Go
set_option linter.unusedVariables false
set_option linter.unusedSimpArgs false
set_option maxRecDepth 100000

/-- A vote's bytes; an acceptor's. -/
def voteB (v : Vt) : ByteArray := numB v.1.toNat ++ numB v.2.1.toNat ++ textB v.2.2
def accS (a : Acp) (i : Nat) : ByteArray := (a.2.take i).foldl (fun s v => s ++ voteB v) (numB a.1.toNat ++ numB a.2.length)
def accB (a : Acp) : ByteArray := accS a a.2.length
theorem accS_step {a : Acp} {i : Nat} (h : i < a.2.length) : accS a (i + 1) = accS a i ++ voteB (a.2.getD i default) := by
  unfold accS
  rw [List.take_succ_eq_append_getElem h, List.foldl_append, List.getD_eq_getElem?_getD, List.getElem?_eq_getElem h]; rfl

/-- What the numbers of an acceptor may be. -/
structure AcOK (a : Acp) : Prop where
  len : a.2.length ≤ 1048576
  p0 : 0 ≤ a.1
  p1 : a.1 < 18446744073709551616
  b0 : ∀ v ∈ a.2, 0 ≤ v.2.1 ∧ v.2.1 < 18446744073709551616

theorem numZ_sat (z : Int) (h0 : 0 ≤ z) (h1 : z < 18446744073709551616) (σ : Sto) : SatCall Try.prog 31 [.int .u64 z] σ fun r σ' => r = .str (numB z.toNat) ∧ σ' = σ := by
  have h := num_sat z.toNat (by omega) σ
  rw [show ((z.toNat : Nat) : Int) = z by omega] at h; exact h
theorem refNumZ_sat (z : Int) (h0 : 0 ≤ z) (h1 : z < 18446744073709551616) (σ : Sto) : SatCall Try.prog 34 [.int .u64 z] σ fun r σ' => r = .str (numB z.toNat) ∧ σ' = σ := by
  have h := refNum_sat z.toNat (by omega) σ
  rw [show ((z.toNat : Nat) : Int) = z by omega] at h; exact h
theorem size_app (a b : ByteArray) : (a ++ b).size = a.size + b.size := ByteArray.size_append
theorem voteB_size {v : Vt} (hm : mayV v = true) (hb : v.2.1 < 18446744073709551616) : (voteB v).size ≤ 65566 := by
  have hm := of_decide_eq_true hm
  have h1 := numB_size (v := v.1.toNat) (by omega)
  have h2 := numB_size (v := v.2.1.toNat) (by omega)
  have h3 := numB_size (v := v.2.2.size) (by omega)
  simp only [voteB, textB, size_app]; omega
theorem accS_size {a : Acp} (ha : AcOK a) (hr : rightP a = true) : ∀ i, i ≤ a.2.length → 1 ≤ (accS a i).size ∧ (accS a i).size ≤ 20 + i * 65566
  | 0, _ => by
    have h1 := numB_size (v := a.1.toNat) (by have := ha.p0; have := ha.p1; omega)
    have h1' := numB_pos (v := a.1.toNat) (by have := ha.p0; have := ha.p1; omega)
    have h2 := numB_size (v := a.2.length) (by have := ha.len; omega)
    simp only [accS, List.take_zero, List.foldl_nil, size_app]; omega
  | i + 1, h => by
    obtain ⟨k1, k2⟩ := accS_size ha hr i (by omega)
    have hm := (okAt_iff.1 (List.all_eq_true.1 hr i (List.mem_range.2 (by omega)))).1
    have hb := ha.b0 _ (getD_memL (xs := a.2) (i := i) (by omega))
    have := voteB_size hm hb.2
    rw [accS_step (by omega), size_app]; omega

set_option maxHeartbeats 2000000 in
theorem bytes_sat (a : Acp) (ha : AcOK a) (σ : Sto) : SatCall Try.prog 18 [acp a] σ fun x σ' => x = (if rightP a then .tup [.str (accB a), .int .i64 0] else .tup [.str ⟨#[]⟩, .int .i64 1]) ∧ σ' = σ := by
  refine sat_fn tab Try.func18 rfl (Nat.le_of_ble_eq_true rfl) (by decide) fun hso => sat_base ?_
  have hr := right_sat a ha.len
  have hl := ha.len
  by_cases hR : rightP a = true
  · rw [hR] at hr
    rw [if_pos hR]
    have n1 := numZ_sat a.1 ha.p0 ha.p1
    have n2 := num_sat (a.2.map vt).length (by rw [List.length_map]; omega)
    rw [List.length_map] at n2
    have n2 : ∀ σ, SatCall Try.prog 31 [.int .u64 ((a.2.map vt).length : Nat)] σ fun r σ' => r = .str (numB a.2.length) ∧ σ' = σ := by rw [List.length_map]; exact n2
    have s1 := numB_size (v := a.1.toNat) (by have := ha.p0; have := ha.p1; omega)
    have s2 := numB_size (v := a.2.length) (by omega)
    repeat' (first | (apply og_ops; (first | (apply og_assign; (apply op_assign (tt := tt); (focus ((conv => lhs; whnf); try exact rfl)); exact rfl)) | (apply og_callv; (first | (refine op_callP (tt := tt) cal16 (hr _) rfl rfl rfl rfl rfl ?_) | (refine op_callP (tt := tt) cal31 (n2 _) rfl rfl rfl rfl rfl ?_))) | (apply og_bin; (apply op_bin true tab; (focus ((conv => lhs; whnf; arg 1; whnf; arg 2; whnf); try exact rfl)); (omega); exact rfl)) | (apply og_load; (apply op_lk; (apply lk_loadX tab; exact rfl; exact rfl; exact rfl; (focus ((conv => lhs; whnf; arg 1; whnf; arg 2; whnf); try skip)); (exact Nat.le_of_ble_eq_true rfl)); (intro c h; cases h); exact rfl)) | (apply og_un; (apply op_un (tt := tt) true; (focus ((conv => lhs; whnf; arg 1; whnf; arg 2; whnf); try exact rfl)); (exact trivial); exact rfl)) | (apply og_alloc; (apply op_allocTb 5 tab; exact rfl; exact rfl; exact rfl; exact rfl)) | (apply og_box; (apply op_boxX (tt := tt); (focus ((conv => lhs; whnf); try exact rfl)); exact rfl; (exact (rfl : _ = 0)); exact rfl)) | (apply ops_nil))) | (apply og_sat; (first | (apply sat_seq) | (apply sat_region) | (apply sat_cond_f; exact rfl; (exact rfl)) | (apply sat_skip) | (apply sat_drawC (k := 7); exact mixed; decide +kernel; decide +kernel))) | (apply pe_norm) | (apply og_dd; (first | (refine dd_cons (step_call (tt := tt) cal31 (n1 _) rfl rfl rfl rfl rfl) ?_) | (apply dd_lk; (first | (apply lg_conv; (apply lk_conv true tab; (focus ((conv => lhs; whnf; arg 1; whnf; arg 2; whnf); try exact rfl)); (simp only [decide_eq_true_eq, decide_eq_false_iff_not, List.length_map, InR, ne_eq] at *; omega))) | (apply lg_fieldAddr; (apply lk_fieldAddrB tab; exact rfl; (focus ((conv => lhs; whnf); try exact rfl)); exact rfl; (first | exact (rfl : _ = 0) | exact (rfl : _ = 1)))) | (apply lg_load; (apply lk_loadX tab; exact rfl; exact rfl; exact rfl; (focus ((conv => lhs; whnf; arg 1; whnf; arg 2; whnf); try skip)); (exact trivial))) | (apply lg_callb; (apply lk_len tab; (focus ((conv => lhs; whnf; arg 1; whnf; arg 2; whnf); try exact rfl)); (exact trivial)))); exact rfl; exact rfl) | (apply dd_nil))))
    have hw := writeString_sat (σ.length + 1) false ⟨#[]⟩ (numB a.1.toNat ++ numB a.2.length) (σ ++ [.cells [.int .u64 a.1, .sl .sh 3 (a.2.map vt)], bld (σ.length + 1) false ⟨#[]⟩]) (getX 1) (by rw [size_app]; show 0 + _ ≤ _; omega)
    rw [setX] at hw
    refine op_callS (tt := tt) (σ' := σ ++ [.cells [.int .u64 a.1, .sl .sh 3 (a.2.map vt)], bld (σ.length + 1) true (accS a 0)]) cal30 (hw.mono fun x s h => ⟨h.1, by rw [h.2]; rfl⟩) rfl rfl rfl rfl rfl ?_
    clear hw n1 n2 hr s1 s2
    repeat' (first | (apply og_ops; (first | (apply og_move; (apply op_move (tt := tt); (focus ((conv => lhs; whnf); try exact rfl)); exact rfl)) | (apply og_load; (apply op_lk; (apply lk_loadX tab; exact rfl; exact rfl; exact rfl; (focus ((conv => lhs; whnf; arg 1; whnf; arg 2; whnf); try skip)); (exact trivial)); (intro c h; cases h); exact rfl)) | (apply og_callb; (apply op_len tab; (focus ((conv => lhs; whnf; arg 1; whnf; arg 2; whnf); try exact rfl)); (exact trivial); exact rfl)) | (apply og_fieldAddr; (apply op_lk; (apply lk_fieldAddrB tab; exact rfl; (focus ((conv => lhs; whnf); try exact rfl)); exact rfl; (exact (rfl : _ = 1))); (intro c h; cases h); exact rfl)) | (apply ops_nil))) | (apply og_sat; (first | (apply sat_seq) | (apply sat_region) | (apply sat_block))) | (apply pe_norm))
    refine sat_loopD (fun i : Nat => [(4, .ptr (σ.length + 1) 0), (21, .sl .sh 3 (a.2.map vt)), (22, .int .i64 a.2.length), (23, .int .i64 i)]) (fun i => σ ++ [.cells [.int .u64 a.1, .sl .sh 3 (a.2.map vt)], bld (σ.length + 1) true (accS a i)]) (fun i => i ≤ a.2.length) (fun i => a.2.length - i) 0 (Nat.zero_le _) ?_ rfl ?_
    · (repeat' (first | exact trivial | exact Wk.same _ | (refine Wk.eq ?_; (conv => rhs; whnf); simp <;> fail) | refine ⟨?_, ?_⟩))
    rintro i hi
    obtain ⟨z1, z2⟩ := accS_size ha hR i hi
    rcases Nat.lt_or_ge i a.2.length with hlt | hge
    · have c1 : decide ((i : Int) < (a.2.length : Int)) = true := decide_eq_true (by omega)
      have hm := (okAt_iff.1 (List.all_eq_true.1 hR i (List.mem_range.2 hlt))).1
      have hb := ha.b0 _ (getD_memL (xs := a.2) (i := i) hlt)
      have hvs := voteB_size hm hb.2
      have hst := accS_step hlt
      have hm' := of_decide_eq_true hm
      have n1 := numZ_sat (a.2.getD ((i : Nat) : Int).toNat default).1 (by rw [Int.toNat_natCast]; omega) (by rw [Int.toNat_natCast]; omega)
      have n2 := numZ_sat (a.2.getD ((i : Nat) : Int).toNat default).2.1 (by rw [Int.toNat_natCast]; omega) (by rw [Int.toNat_natCast]; omega)
      have n3 := text_sat (a.2.getD ((i : Nat) : Int).toNat default).2.2 (by rw [Int.toNat_natCast]; omega)
      have q1 : (1 ≤ (a.2.getD ((i : Nat) : Int).toNat default).1 ∧ (a.2.getD ((i : Nat) : Int).toNat default).1 ≤ 65536) := by rw [Int.toNat_natCast]; omega
      have s1 := numB_size (v := (a.2.getD ((i : Nat) : Int).toNat default).1.toNat) (by omega)
      have s2 := numB_size (v := (a.2.getD ((i : Nat) : Int).toNat default).2.1.toNat) (by rw [Int.toNat_natCast]; omega)
      have s3 : (textB (a.2.getD ((i : Nat) : Int).toNat default).2.2).size ≤ 65566 := by rw [Int.toNat_natCast]; simp only [voteB, size_app] at hvs; omega
      repeat' (first | (apply og_ops; (first | (apply og_bin; (apply op_bin true tab; (focus ((conv => lhs; whnf; arg 1; whnf; arg 2; whnf); try exact rfl)); (first | exact trivial | (simp [InR] at *; omega)); exact rfl)) | (apply og_load; (apply op_load tab; (focus ((conv => lhs; whnf; arg 1; whnf; arg 2; whnf); try skip)); (exact Nat.le_of_ble_eq_true rfl); exact rfl)) | (apply og_indexAddr; (refine op_indexMap (tI := 3) _ tab rfl (by (focus ((conv => lhs; whnf); try exact rfl))) (by (focus ((conv => lhs; whnf); try exact rfl))) rfl (by (omega)) (by (omega)) (by (focus ((conv => lhs; whnf); try exact rfl))) (ltn rfl) ?_)) | (apply og_store; (apply op_storeX tab; exact rfl; exact rfl; exact rfl; exact rfl; exact rfl; exact rfl; exact rfl; exact rfl)) | (apply og_alloc; (apply op_allocX tab; exact rfl; exact rfl; (exact (rfl : _ = 2)); exact rfl)) | (apply ops_nil))) | (apply og_sat; (first | (apply sat_seq) | (apply sat_region) | (apply sat_cond_t; exact rfl; (assumption)) | (apply sat_skip) | (apply sat_block) | (apply sat_drawC (k := 11); exact mixed; decide +kernel; decide +kernel))) | (apply pe_norm) | (apply og_dd; (first | (refine dd_cons (step_call (tt := tt) cal31 (n1 _) rfl rfl rfl rfl rfl) ?_) | (refine dd_cons (step_call (tt := tt) cal31 (n2 _) rfl rfl rfl rfl rfl) ?_) | (refine dd_cons (step_call (tt := tt) cal32 (n3 _) rfl rfl rfl rfl rfl) ?_) | (apply dd_lk; (first | (apply lg_bin; (apply lk_bin true tab; (focus ((conv => lhs; whnf; arg 1; whnf; arg 2; whnf); try exact rfl)); (omega))) | (apply lg_conv; (apply lk_conv true tab; (focus ((conv => lhs; whnf; arg 1; whnf; arg 2; whnf); try exact rfl)); (simp only [InR]; omega))) | (apply lg_fieldAddr; (apply lk_fieldAddrB tab; exact rfl; (focus ((conv => lhs; whnf); try exact rfl)); exact rfl; (first | exact (rfl : _ = 0) | exact (rfl : _ = 1) | exact (rfl : _ = 2)))) | (apply lg_load; (apply lk_loadX tab; exact rfl; exact rfl; exact rfl; (focus ((conv => lhs; whnf; arg 1; whnf; arg 2; whnf); try skip)); (exact trivial)))); exact rfl; exact rfl) | (apply dd_nil))))
      refine ops_sto (σ' := σ ++ [.cells [.int .u64 a.1, .sl .sh 3 (a.2.map vt)], bld (σ.length + 1) true (accS a i), .cells (vt (a.2.getD ((i : Nat) : Int).toNat default)).cells]) rfl ?_
      have hw := writeString_sat (σ.length + 1) true (accS a i) (voteB (a.2.getD ((i : Nat) : Int).toNat default)) (σ ++ [.cells [.int .u64 a.1, .sl .sh 3 (a.2.map vt)], bld (σ.length + 1) true (accS a i), .cells (vt (a.2.getD ((i : Nat) : Int).toNat default)).cells]) (getX 1) (by rw [Int.toNat_natCast]; omega)
      rw [setX] at hw
      have hst' : accS a (i + 1) = accS a i ++ voteB (a.2.getD ((i : Nat) : Int).toNat default) := by rw [Int.toNat_natCast]; exact hst
      refine op_callS (tt := tt) (σ' := σ ++ [.cells [.int .u64 a.1, .sl .sh 3 (a.2.map vt)], bld (σ.length + 1) true (accS a (i + 1)), .cells (vt (a.2.getD ((i : Nat) : Int).toNat default)).cells]) cal30 (hw.mono fun x s h => ⟨h.1, by rw [h.2, hst']; rfl⟩) rfl rfl rfl rfl rfl ?_
      clear hw n1 n2 n3
      repeat' (first | (apply og_ops; (first | (apply og_move; (apply op_move (tt := tt); (focus ((conv => lhs; whnf); try exact rfl)); exact rfl)) | (apply og_bin; (apply op_bin true tab; (focus ((conv => lhs; whnf; arg 1; whnf; arg 2; whnf); try exact rfl)); (simp only [InR]; omega); exact rfl)) | (apply ops_nil))) | (apply og_sat; (apply sat_region)) | (apply pe_norm) | (apply pb_norm))
      refine ⟨i + 1, by omega, by omega, ?_, ?_⟩
      · (repeat' (first | exact trivial | exact Wk.same _ | refine ⟨?_, ?_⟩))
      · exact loopD_end 2 rfl (by simp) (stoOK_app hso (by simp [Ent.lt, ltAll, PV.lt, PV.cells, vt, bld])) (envL_lt (by simp [PV.lt, vt, bld]))
    · have c1 : decide ((i : Int) < (a.2.length : Int)) = false := decide_eq_false (by omega)
      have hii : i = a.2.length := by omega
      subst hii
      have hs := string_sat (σ.length + 1) true (accB a) (σ ++ [.cells [.int .u64 a.1, .sl .sh 3 (a.2.map vt)], bld (σ.length + 1) true (accB a)]) (getX 1) (by show 0 < (accS a _).size; omega) (by show (accS a _).size ≤ _; omega)
      rw [setX] at hs
      repeat' (first | (apply og_ops; (first | (apply og_bin; (apply op_bin true tab; (focus ((conv => lhs; whnf; arg 1; whnf; arg 2; whnf); try exact rfl)); (exact trivial); exact rfl)) | (apply ops_nil))) | (apply og_sat; (first | (apply sat_seq) | (apply sat_region) | (apply sat_cond_f; exact rfl; (assumption)) | (apply sat_exit))) | (apply pe_norm) | (apply pe_exit) | (apply pb_same))
      refine op_callS (tt := tt) cal33 hs rfl rfl rfl rfl rfl ?_
      repeat' (first | (apply og_ops; (first | (apply og_assign; (apply op_assign (tt := tt); (focus ((conv => lhs; whnf); try exact rfl)); exact rfl)) | (apply ops_nil))) | (apply og_sat; (apply sat_ret)) | (apply pe_norm))
      (change fnPost _ _ _ _ _ _ _; apply fn_endN; (exact .inr rfl); (focus (repeat' (first | (apply rr_tmp; (focus ((conv => lhs; whnf); try exact rfl)); (exact Wk.same _)) | exact rr_nil))); exact rfl; (exact rfl); exact Nat.le_refl _; (focus (repeat' (first | exact trivial | refine ⟨?_, ?_⟩))); exact hso)
      exact ⟨rfl, rfl⟩
  · have hR' : rightP a = false := by simpa using hR
    rw [hR'] at hr
    rw [if_neg hR]
    repeat' (first | (apply og_ops; (first | (apply og_assign; (apply op_assign (tt := tt); (focus ((conv => lhs; whnf); try exact rfl)); exact rfl)) | (apply og_callv; (refine op_callP (tt := tt) cal16 (hr _) rfl rfl rfl rfl rfl ?_)) | (apply og_load; (apply op_lk; (apply lk_loadX tab; exact rfl; exact rfl; exact rfl; (focus ((conv => lhs; whnf; arg 1; whnf; arg 2; whnf); try skip)); (exact Nat.le_of_ble_eq_true rfl)); (intro c h; cases h); exact rfl)) | (apply og_un; (apply op_un (tt := tt) true; (focus ((conv => lhs; whnf; arg 1; whnf; arg 2; whnf); try exact rfl)); (exact trivial); exact rfl)) | (apply og_box; (apply op_boxX (tt := tt); (focus ((conv => lhs; whnf); try exact rfl)); exact rfl; (exact (rfl : _ = 0)); exact rfl)) | (apply ops_nil))) | (apply og_sat; (first | (apply sat_seq) | (apply sat_region) | (apply sat_cond_t; exact rfl; (exact rfl)) | (apply sat_ret))) | (apply pe_norm) | (apply pe_ret))
    (change fnPost _ _ _ _ _ _ _; apply fn_endN; (exact .inr rfl); (focus (repeat' (first | (apply rr_tmp; (focus ((conv => lhs; whnf); try exact rfl)); (exact Wk.same _)) | exact rr_nil))); exact rfl; (exact rfl); exact Nat.le_refl _; (focus (repeat' (first | exact trivial | refine ⟨?_, ?_⟩))); exact hso)
    exact ⟨rfl, rfl⟩

end Go.Proofs.Ytflgoabdgibphaa.Pv
