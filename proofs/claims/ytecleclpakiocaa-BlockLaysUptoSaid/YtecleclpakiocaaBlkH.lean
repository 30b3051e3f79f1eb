/- block.Xor, the plain one beside it. -/
import Derived.Test.YtecleclpakiocaaBlkG
namespace Go.Proofs.Ytecleclpakiocaa.Pv
open Go
set_option linter.unusedVariables false
set_option linter.unusedSimpArgs false
set_option maxRecDepth 100000

/-- Two bytes, the one over the other. -/
def xorB (x y : Int) : Int := IntKind.u8.wrap ((BitVec.ofInt IntKind.u8.bits x ^^^ BitVec.ofInt IntKind.u8.bits y).toNat : Int)
theorem xorB_eq (x y : Int) : xorB x y = ((BitVec.ofInt 8 x ^^^ BitVec.ofInt 8 y).toNat : Int) := by
  have h := (BitVec.ofInt 8 x ^^^ BitVec.ofInt 8 y).isLt
  exact wrap_in (by simp only [InR, IntKind.min, IntKind.max, IntKind.bits, IntKind.signed] at *; omega)
theorem xorB_byte (x y : Int) : 0 ≤ xorB x y ∧ xorB x y ≤ 255 := by
  rw [xorB_eq]
  have h := (BitVec.ofInt 8 x ^^^ BitVec.ofInt 8 y).isLt
  omega
theorem ofInt_xorB (x y : Int) : BitVec.ofInt 8 (xorB x y) = BitVec.ofInt 8 x ^^^ BitVec.ofInt 8 y := by
  rw [xorB_eq, BitVec.ofInt_natCast, BitVec.ofNat_toNat, BitVec.setWidth_eq]
theorem toNat_byte {x : Int} (h : 0 ≤ x ∧ x ≤ 255) : ((BitVec.ofInt 8 x).toNat : Int) = x := by
  rw [BitVec.toNat_ofInt]; omega
theorem xorB_twice {x y : Int} (h : 0 ≤ x ∧ x ≤ 255) : xorB (xorB x y) y = x := by
  rw [xorB_eq, ofInt_xorB, BitVec.xor_assoc, BitVec.xor_self, BitVec.xor_zero, toNat_byte h]
theorem xorB_comm (x y : Int) : xorB x y = xorB y x := by rw [xorB_eq, xorB_eq, BitVec.xor_comm]
theorem xorB_self (x : Int) : xorB x x = 0 := by rw [xorB_eq, BitVec.xor_self]; rfl

def xorI (a b : List Int) : List Int := List.zipWith xorB a b
theorem xorI_byte : ∀ {a b : List Int} {x : Int}, x ∈ xorI a b → 0 ≤ x ∧ x ≤ 255
  | [], _, x, h => by simp [xorI] at h
  | _ :: _, [], x, h => by simp [xorI] at h
  | y :: a, z :: b, x, h => by
    simp only [xorI, List.zipWith_cons_cons, List.mem_cons] at h
    rcases h with rfl | h
    · exact xorB_byte _ _
    · exact xorI_byte (a := a) (b := b) h
theorem xorI_len {a b : List Int} (h : a.length = b.length) : (xorI a b).length = a.length := by simp [xorI, h]
def xorP (s u : ByteArray) : ByteArray × Int := if s.size = u.size then (ofI (xorI (bi s) (bi u)), 0) else (⟨#[]⟩, 3)

theorem xorI_snoc {a b : List Int} {i : Nat} (ha : i < a.length) (hb : i < b.length) : xorI (a.take (i + 1)) (b.take (i + 1)) = xorI (a.take i) (b.take i) ++ [xorB (a.getD i 0) (b.getD i 0)] := by
  rw [List.take_succ_eq_append_getElem ha, List.take_succ_eq_append_getElem hb, xorI, xorI, List.zipWith_append (by simp; omega)]
  simp [List.getD, ha, hb]

/-- The first i bytes are done. -/
def xorTo (a b : List Int) (i : Nat) : List Int := xorI (a.take i) (b.take i) ++ a.drop i
theorem xorTo_len {a b : List Int} (h : a.length = b.length) (i : Nat) : (xorTo a b i).length = a.length := by
  rw [xorTo, List.length_append, xorI_len (by rw [List.length_take, List.length_take, h]), List.length_take, List.length_drop]; omega
theorem xorTo_get {a b : List Int} (h : a.length = b.length) {i : Nat} (hi : i < a.length) : (xorTo a b i).getD i default = a.getD i 0 := by
  have hl : (xorI (a.take i) (b.take i)).length = i := by rw [xorI_len (by rw [List.length_take, List.length_take, h]), List.length_take]; omega
  rw [xorTo, List.getD, List.getElem?_append_right (by omega), hl, Nat.sub_self, List.getElem?_drop, Nat.add_zero, List.getD]; rfl
theorem xorTo_set {a b : List Int} (h : a.length = b.length) {i : Nat} (hi : i < a.length) : (xorTo a b i).set i (xorB (a.getD i 0) (b.getD i 0)) = xorTo a b (i + 1) := by
  have hl : (xorI (a.take i) (b.take i)).length = i := by rw [xorI_len (by rw [List.length_take, List.length_take, h]), List.length_take]; omega
  rw [xorTo, xorTo, xorI_snoc hi (by omega), List.set_append_right _ _ (by omega), hl, Nat.sub_self, List.append_assoc]
  congr 1
  rw [List.drop_eq_getElem_cons hi]; rfl

theorem xor_sat (s u : ByteArray) (hs : s.size ≤ 4000000) (σ : Sto) : SatCall Try.prog 18 [.str s, .str u] σ fun x σ' => x = .tup [.str (xorP s u).1, .int .i64 (xorP s u).2] ∧ σ' = σ := by
  refine sat_fn tab Try.func18 rfl (Nat.le_of_ble_eq_true rfl) (by decide) fun hso => ?_
  by_cases h0 : s.size = u.size
  · have c0 : ((s.size : Int) != (u.size : Int)) = false := by simp [h0]
    have hl : (bi s).length = (bi u).length := by rw [bi_len, bi_len, h0]
    repeat' (first | (apply og_ops; (first | (apply og_move; (apply op_move (tt := tt); (focus ((conv => lhs; whnf); try exact rfl)); exact rfl)) | (apply og_assign; (apply op_assign (tt := tt); (focus ((conv => lhs; whnf); try exact rfl)); exact rfl)) | (apply og_bin; (apply op_bin true tab; (focus ((conv => lhs; whnf; arg 1; whnf; arg 2; whnf); try exact rfl)); (exact trivial); exact rfl)) | (apply og_callb; (apply op_len tab; (focus ((conv => lhs; whnf; arg 1; whnf; arg 2; whnf); try exact rfl)); (exact trivial); exact rfl)) | (apply ops_nil))) | (apply og_sat; (first | (apply sat_seq) | (apply sat_region) | (apply sat_cond_f; exact rfl; (assumption)) | (apply sat_skip))) | (apply pe_norm))
    refine ops_sto (σ' := σ ++ []) (List.append_nil σ).symm ?_
    repeat' (first | (apply og_ops; (first | (apply og_move; (apply op_move (tt := tt); (focus ((conv => lhs; whnf); try exact rfl)); exact rfl)) | (apply og_assign; (apply op_assign (tt := tt); (focus ((conv => lhs; whnf); try exact rfl)); exact rfl)) | (apply og_callb; (apply op_len tab; (focus ((conv => lhs; whnf; arg 1; whnf; arg 2; whnf); try exact rfl)); (exact trivial); exact rfl)) | (apply og_conv; (apply op_strBytesX tab; exact rfl; exact rfl; exact rfl; (focus ((conv => lhs; whnf); try exact rfl)); (exact (rfl : _ = 0)); exact rfl)) | (apply ops_nil))) | (apply og_sat; (first | (apply sat_seq) | (apply sat_region) | (apply sat_block))) | (apply pe_norm))
    refine sat_loopW (fun i : Nat => [(0, .str s), (1, .str u), (6, .bsl (σ.length + 0) 0 1 s.size s.size), (16, .int .i64 s.size), (17, .int .i64 i)]) (fun i => σ ++ [.cells ((xorTo (bi s) (bi u) i).map (.int .u8))]) (fun i => i ≤ s.size) (fun i => s.size - i) 0 (Nat.zero_le _) ?_ rfl ?_
    · (repeat' (first | exact trivial | exact Wk.same _ | refine ⟨?_, ?_⟩))
    rintro i hi
    by_cases hil : i < s.size
    · have d1 : decide ((i : Int) < (s.size : Int)) = true := decide_eq_true (by omega)
      have d2 : (i : Int) < (u.size : Int) := by omega
      have d3 : (xorTo (bi s) (bi u) i).length = s.size := by rw [xorTo_len hl, bi_len]
      have e8 := xorTo_get hl (i := i) (by rw [bi_len]; exact hil)
      have e9 := xorTo_set hl (i := i) (by rw [bi_len]; exact hil)
      repeat' (first | (apply og_ops; (first | (apply og_move; (apply op_move (tt := tt); (focus ((conv => lhs; whnf); try exact rfl)); exact rfl)) | (apply og_assign; (apply op_assign (tt := tt); (focus ((conv => lhs; whnf); try exact rfl)); exact rfl)) | (apply og_bin; (apply op_bin true tab; (focus ((conv => lhs; whnf; arg 1; whnf; arg 2; whnf); try exact rfl)); (first | exact trivial | (simp only [InR]; omega)); exact rfl)) | (apply og_indexAddr; (apply op_lk; (apply lk_idxB (tI := 3) tab; exact rfl; (focus ((conv => lhs; whnf); try exact rfl)); (focus ((conv => lhs; whnf); try exact rfl)); exact rfl; (omega)); (intro c h; cases h); exact rfl)) | (apply og_store; (apply op_storeMX _ tab; exact rfl; exact rfl; exact rfl; (exact (rfl : _ = some (Ent.cells (List.map _ _)))); exact rfl; exact rfl; exact rfl; (omega))) | (apply ops_nil))) | (apply og_sat; (first | (apply sat_seq) | (apply sat_region) | (apply sat_cond_t; exact rfl; (assumption)) | (apply sat_skip) | (apply sat_block) | (apply sat_drawC (k := 7); exact mixed; decide +kernel; decide +kernel))) | (apply pe_norm) | (apply pb_norm) | (apply og_dd; (first | (apply dd_lk; (first | (apply lg_move; (apply lk_move (tt := tt); (focus ((conv => lhs; whnf); try exact rfl)))) | (apply lg_load; (apply lk_loadMX (PV.int .u8) tab; exact rfl; exact rfl; exact rfl; (exact (rfl : _ = some (Ent.cells (List.map _ _)))); (omega); exact rfl; exact rfl)) | (apply lg_index; (apply lk_index tab (tI := 3); (focus ((conv => lhs; whnf; arg 1; whnf; arg 2; whnf); try exact rfl)); (omega))) | (apply lg_indexAddr; (apply lk_idxB (tI := 3) tab; exact rfl; (focus ((conv => lhs; whnf); try exact rfl)); (focus ((conv => lhs; whnf); try exact rfl)); exact rfl; (omega)))); exact rfl; exact rfl) | (apply dd_nil))))
      rw [bt_bi, Nat.zero_add, Int.toNat_natCast, e8]
      refine ⟨i + 1, by omega, by omega, ?_, ?_⟩
      · (repeat' (first | exact trivial | exact Wk.same _ | refine ⟨?_, ?_⟩))
      · rw [← e9]; rfl
    · have d1 : decide ((i : Int) < (s.size : Int)) = false := decide_eq_false (by omega)
      have d3 : (xorTo (bi s) (bi u) i).length = s.size := by rw [xorTo_len hl, bi_len]
      have hi' : i = s.size := by omega
      subst hi'
      repeat' (first | (apply og_ops; (first | (apply og_move; (apply op_move (tt := tt); (focus ((conv => lhs; whnf); try exact rfl)); exact rfl)) | (apply og_assign; (apply op_assign (tt := tt); (focus ((conv => lhs; whnf); try exact rfl)); exact rfl)) | (apply og_bin; (apply op_bin true tab; (focus ((conv => lhs; whnf; arg 1; whnf; arg 2; whnf); try exact rfl)); (exact trivial); exact rfl)) | (apply og_conv; (apply op_lk; (apply lk_bytesStr tab; exact rfl; exact rfl; exact rfl; exact rfl; (focus ((conv => lhs; whnf); try exact rfl)); (apply srcM_boxX0; exact rfl; (omega)); exact rfl); (intro c h; cases h); exact rfl)) | (apply ops_nil))) | (apply og_sat; (first | (apply sat_seq) | (apply sat_region) | (apply sat_cond_f; exact rfl; (assumption)) | (apply sat_ret) | (apply sat_exit))) | (apply pe_norm) | (apply pe_exit) | (apply pb_same))
      (change fnPost _ _ _ _ _ _ _; apply fn_endN; (exact .inr rfl); (focus (repeat' (first | (apply rr_tmp; (focus ((conv => lhs; whnf); try exact rfl)); (exact Wk.same _)) | exact rr_nil))); exact rfl; (exact rfl); exact Nat.le_refl _; (focus (repeat' (first | exact trivial | refine ⟨?_, ?_⟩))); exact hso)
      have e9 : xorTo (bi s) (bi u) s.size = xorI (bi s) (bi u) := by
        rw [xorTo, List.take_of_length_le (by rw [bi_len]; exact Nat.le_refl _), List.take_of_length_le (by rw [bi_len]; omega), List.drop_of_length_le (by rw [bi_len]; exact Nat.le_refl _), List.append_nil]
      exact ⟨by rw [xorP, if_pos h0, e9]; rfl, rfl⟩
  · have c0 : ((s.size : Int) != (u.size : Int)) = true := by simp; omega
    repeat' (first | (apply og_ops; (first | (apply og_move; (apply op_move (tt := tt); (focus ((conv => lhs; whnf); try exact rfl)); exact rfl)) | (apply og_assign; (apply op_assign (tt := tt); (focus ((conv => lhs; whnf); try exact rfl)); exact rfl)) | (apply og_bin; (apply op_bin true tab; (focus ((conv => lhs; whnf; arg 1; whnf; arg 2; whnf); try exact rfl)); (exact trivial); exact rfl)) | (apply og_callb; (apply op_len tab; (focus ((conv => lhs; whnf; arg 1; whnf; arg 2; whnf); try exact rfl)); (exact trivial); exact rfl)) | (apply ops_nil))) | (apply og_sat; (first | (apply sat_seq) | (apply sat_region) | (apply sat_cond_t; exact rfl; (assumption)) | (apply sat_ret))) | (apply pe_norm) | (apply pe_ret))
    (change fnPost _ _ _ _ _ _ _; apply fn_endN; (exact .inr rfl); (focus (repeat' (first | (apply rr_tmp; (focus ((conv => lhs; whnf); try exact rfl)); (exact Wk.same _)) | exact rr_nil))); exact rfl; (exact (List.append_nil _).symm); exact Nat.le_refl _; (focus (repeat' (first | exact trivial | refine ⟨?_, ?_⟩))); exact hso)
    exact ⟨by rw [xorP, if_neg h0]; rfl, rfl⟩

end Go.Proofs.Ytecleclpakiocaa.Pv
