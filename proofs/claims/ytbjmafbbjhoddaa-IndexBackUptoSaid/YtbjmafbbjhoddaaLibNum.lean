/- Numbers and texts as bytes. -/
import Derived.Test.YtbjmafbbjhoddaaTy
import Derived.Test.YtbjmafbbjhoddaaEq
import Derived.Test.YtbjmafbbjhoddaaPvZu
namespace Go.Proofs.Ytbjmafbbjhoddaa.Pv
open Go
set_option linter.unusedVariables false
set_option linter.unusedSimpArgs false
set_option maxRecDepth 100000

def numT (v : Nat) (acc : List Int) : List Int := if h : v = 0 then acc else numT (v / 128) (((v % 128 : Nat) + 128 : Int) :: acc)
termination_by v
decreasing_by exact Nat.div_lt_self (by omega) (by omega)
def numL (v : Nat) : List Int := numT (v / 128) [((v % 128 : Nat) : Int)]
def numB (v : Nat) : ByteArray := ofI (numL v)
theorem numT_0 (acc : List Int) : numT 0 acc = acc := by rw [numT]; simp
theorem numT_s {v : Nat} (h : v ≠ 0) (acc : List Int) : numT v acc = numT (v / 128) (((v % 128 : Nat) + 128 : Int) :: acc) := by conv => lhs; rw [numT]; rw [dif_neg h]

theorem ofI_app (xs ys : List Int) : ofI xs ++ ofI ys = ofI (xs ++ ys) := by
  apply ByteArray.ext
  simp [ofI, ByteArray.data_append]

theorem fd_128 (k : Nat) : ((k : Int).fdiv (2 ^ min (Int.toNat 7) IntKind.u64.bits)) = ((k / 128 : Nat) : Int) := by
  rw [show (2 ^ min (Int.toNat 7) IntKind.u64.bits : Int) = 128 from rfl, Int.fdiv_eq_ediv_of_nonneg _ (by decide)]; omega
theorem and_127 (k : Nat) : IntKind.u8.wrap (IntKind.u64.wrap ((BitVec.ofInt IntKind.u64.bits (k : Int) &&& BitVec.ofInt IntKind.u64.bits 127).toNat : Int)) = ((k % 128 : Nat) : Int) := by
  have h : (BitVec.ofInt IntKind.u64.bits (k : Int) &&& BitVec.ofInt IntKind.u64.bits 127).toNat = k % 128 := by
    have e1 : (BitVec.ofInt IntKind.u64.bits (k : Int)).toNat = k % 2 ^ 64 := by
      show (BitVec.ofInt 64 (k : Int)).toNat = _
      rw [BitVec.toNat_ofInt]; omega
    have e2 : (BitVec.ofInt IntKind.u64.bits 127).toNat = 2 ^ 7 - 1 := rfl
    rw [BitVec.toNat_and, e1, e2, Nat.and_two_pow_sub_one_eq_mod]; omega
  rw [h]
  simp [IntKind.wrap, IntKind.bits, IntKind.signed]; omega
theorem or_128 {m : Nat} (h : m < 128) : IntKind.u8.wrap ((BitVec.ofInt IntKind.u8.bits (m : Int) ||| BitVec.ofInt IntKind.u8.bits 128).toNat : Int) = (m : Int) + 128 := by
  have : ∀ m : Fin 128, IntKind.u8.wrap ((BitVec.ofInt IntKind.u8.bits ((m.1 : Nat) : Int) ||| BitVec.ofInt IntKind.u8.bits 128).toNat : Int) = ((m.1 : Nat) : Int) + 128 := by decide +kernel
  exact this ⟨m, h⟩
theorem drop_set {α : Type} {l : List α} {a : Nat} {x : α} (h : a < l.length) : (l.set a x).drop a = x :: l.drop (a + 1) := by
  rw [List.drop_eq_getElem_cons (by rw [List.length_set]; exact h), List.getElem_set_self, List.drop_set_of_lt (by omega)]

section
variable {P : Program} {n m : Nat} {env : Env} {σ : Sto} {tt : TT} {ty : TypeId} {pos : String} {after : Array Edge} {dd : Option Nat} {g : Option (Nat × Bool)}
theorem lk_sliceAr (ht : TabOK P tt) {t : TypeId} {x : Operand} {lo hi mx : Option Operand} {e : TI} {i off k : Nat} {l h mm : Int} (he : ati tt t = some (k, e)) (hx : opv tt env t x = .ptr i off)
    (hm1 : (mx.isSome && hi.isNone) = false) (hl : bndP tt env lo 0 = some l) (hh : bndP tt env hi k = some h) (hm : bndP tt env mx k = some mm) (hc : 0 ≤ l ∧ l ≤ h ∧ h ≤ mm ∧ mm ≤ k) :
    LookAt P n m env σ ⟨dd, .slice t x lo hi mx, ty, pos, after, g⟩ (.bsl i (off + l.toNat * e.size) e.size (h.toNat - l.toNat) (mm.toNat - l.toNat)) := by
  refine ⟨fun F G a w hs => ?_⟩
  have hxo := opv_ok hs tt t x
  have hxl := opv_lt hs tt t x
  rw [hx] at hxo hxl
  have ex := (hxo.toS rfl).ptrv
  obtain ⟨eT, hu2, hT⟩ := ati_ok ht he
  obtain ⟨h1, h2, h3, h4⟩ := hc
  obtain ⟨m', q1, q2, hb⟩ := bounds_any (P := P) hs (isS := false) (by intro h; cases mx <;> cases hi <;> simp_all) hl hh (Nat.le_refl k) hm h1 h2 h3 h4
  have hz := hT.rsize w
  refine ⟨.slice (some (if m' = l.toNat then ⟨G.bs i, off, none⟩ else (⟨G.bs i, off, none⟩ : Addr).add (l.toNat * e.size))) (h.toNat - l.toNat) (m' - l.toNat), ?_, .inr (.inl (.bsl _ _ _ _ _ _ _ (by omega) (by omega) ?_)), by simpa [PV.lt] using hxl⟩
  · simp [execOp, ex, Instr.sliceAt, underlying, hu2, hb, hz, Instr.sureAddr, asAddr]
  · by_cases h0 : mm.toNat - l.toNat = 0
    · exact .inl h0
    · right
      rw [if_neg (by omega)]
      simp [add_eq]
end

def NumI (v : Nat) (x : Int × Int × List Int) : Prop := ∃ k a : Nat, x.1 = k ∧ x.2.1 = a ∧ a ≤ 9 ∧ k < 128 ^ (a + 1) ∧ x.2.2.length = 10 ∧ numT (k / 128) (x.2.2.drop a) = numL v
theorem NumI.next {v k a : Nat} {ys : List Int} (ha : a ≤ 9) (hk : k < 128 ^ (a + 1)) (hl : ys.length = 10) (hn : numT (k / 128) (ys.drop a) = numL v) (h0 : k / 128 ≠ 0) :
    1 ≤ a ∧ NumI v (((k : Int).fdiv (2 ^ min (Int.toNat 7) IntKind.u64.bits)), (a : Int) - 1, ys.set (0 + ((a : Int) - 1).toNat) (IntKind.u8.wrap ((BitVec.ofInt IntKind.u8.bits (IntKind.u8.wrap (IntKind.u64.wrap ((BitVec.ofInt IntKind.u64.bits ((k : Int).fdiv (2 ^ min (Int.toNat 7) IntKind.u64.bits)) &&& BitVec.ofInt IntKind.u64.bits 127).toNat : Int))) ||| BitVec.ofInt IntKind.u8.bits 128).toNat : Int))) := by
  have h1 : 1 ≤ a := by
    rcases Nat.eq_zero_or_pos a with rfl | h
    · exact absurd (Nat.div_eq_of_lt (by simpa using hk)) h0
    · exact h
  refine ⟨h1, k / 128, a - 1, fd_128 k, (by show ((a : Int) - 1) = ((a - 1 : Nat) : Int); omega), by omega, ?_, by simpa using hl, ?_⟩
  · rw [show a - 1 + 1 = a by omega]
    rw [Nat.pow_succ] at hk
    exact Nat.div_lt_of_lt_mul (by rw [Nat.mul_comm]; exact hk)
  · rw [fd_128, and_127, or_128 (Nat.mod_lt _ (by decide)), show 0 + ((a : Int) - 1).toNat = a - 1 by omega]
    dsimp only
    rw [drop_set (by omega), show a - 1 + 1 = a by omega, ← hn, ← numT_s h0]
theorem NumI.end_ {v k a : Nat} {ys : List Int} (ha : a ≤ 9) (hl : ys.length = 10) (hn : numT (k / 128) (ys.drop a) = numL v) (h0 : k / 128 = 0) : (ys.drop a).take (10 - a) = numL v := by
  rw [h0, numT_0] at hn
  rw [List.take_of_length_le (by rw [List.length_drop]; omega)]; exact hn

theorem num_sat (v : Nat) (hv : v < 18446744073709551616) (σ : Sto) : SatCall Try.prog 51 [.int .u64 v] σ fun r σ' => r = .str (numB v) ∧ σ' = σ := by
  refine sat_fn tab Try.func51 rfl (Nat.le_of_ble_eq_true rfl) (by decide) fun hso => sat_base ?_
  repeat' (first | (apply og_ops; (first | (apply og_assign; (apply op_assign (tt := tt); (focus ((conv => lhs; whnf); try exact rfl)); exact rfl)) | (apply ops_nil))) | (apply og_sat; (first | (apply sat_seq) | (apply sat_region))) | (apply pe_norm))
  refine sat_scope 0 rfl (fun x : Int × Int × List Int => [(0, .int .u64 x.1), (3, .ptr (σ.length + 0) 0), (4, .int .i64 x.2.1)]) (fun x => σ ++ [.cells (x.2.2.map (PV.int .u8))]) (NumI v) (fun x => x.1.toNat) ?_ ?_
  · repeat' (first | (apply og_ops; (first | (apply og_move; (apply op_move (tt := tt); (focus ((conv => lhs; whnf); try exact rfl)); exact rfl)) | (apply og_assign; (apply op_assign (tt := tt); (focus ((conv => lhs; whnf); try exact rfl)); exact rfl)) | (apply og_bin; (apply op_bin true tab; (focus ((conv => lhs; whnf; arg 1; whnf; arg 2; whnf); try exact rfl)); (exact trivial); exact rfl)) | (apply og_indexAddr; (apply op_lk; (apply lk_idxA (tI := 3) tab; exact rfl; (focus ((conv => lhs; whnf); try exact rfl)); (focus ((conv => lhs; whnf); try exact rfl)); exact rfl; (omega)); (intro c h; cases h); exact rfl)) | (apply og_conv; (apply op_conv false tab; (focus ((conv => lhs; whnf; arg 1; whnf; arg 2; whnf); try exact rfl)); (exact trivial); exact rfl)) | (apply og_alloc; (apply op_allocX tab; exact rfl; exact rfl; (exact (rfl : _ = 0)); exact rfl)) | (apply ops_nil))) | (apply og_sat; (first | (apply sat_seq) | (apply sat_region))) | (apply pe_norm))
    refine ops_sto (σ' := σ ++ [.cells ((List.replicate 10 (0 : Int)).map (PV.int .u8))]) rfl ?_
    have hN0 : v < 128 ^ (9 + 1) ∧ 9 ≤ 9 ∧ numT (v / 128) (((List.replicate 10 (0 : Int)).set 9 (IntKind.u8.wrap (IntKind.u64.wrap ((BitVec.ofInt IntKind.u64.bits (v : Int) &&& BitVec.ofInt IntKind.u64.bits 127).toNat : Int)))).drop 9) = numL v := ⟨by omega, by omega, by rw [and_127]; rfl⟩
    by_cases h0 : v / 128 = 0
    · have c0 : decide ((0 : Int) < (v : Int).fdiv (2 ^ min (Int.toNat 7) IntKind.u64.bits)) = false := by rw [fd_128]; exact decide_eq_false (by omega)
      repeat' (first | (apply og_ops; (first | (apply og_move; (apply op_move (tt := tt); (focus ((conv => lhs; whnf); try exact rfl)); exact rfl)) | (apply og_assign; (apply op_assign (tt := tt); (focus ((conv => lhs; whnf); try exact rfl)); exact rfl)) | (apply og_bin; (apply op_bin true tab; (focus ((conv => lhs; whnf; arg 1; whnf; arg 2; whnf); try exact rfl)); (first | exact trivial | omega); exact rfl)) | (apply og_store; (apply op_storeX tab; exact rfl; exact rfl; exact rfl; exact rfl; exact rfl; exact rfl; exact rfl; exact rfl)) | (apply ops_nil))) | (apply og_sat; (first | (apply sat_seq) | (apply sat_region) | (apply sat_cond_f; exact rfl; (assumption)) | (apply sat_skip) | (apply sat_label))) | (apply pe_norm))
      refine op_lk (lk_sliceAr tab rfl rfl rfl rfl rfl rfl ⟨by decide, by decide, by decide, by decide⟩) (by intro c h; cases h) rfl ?_
      refine op_lk (lk_bytesStr tab rfl rfl rfl rfl rfl (srcM_boxX (off := 9) (len := 1) (zs := (List.replicate 10 (0 : Int)).set 9 (IntKind.u8.wrap (IntKind.u64.wrap ((BitVec.ofInt IntKind.u64.bits (v : Int) &&& BitVec.ofInt IntKind.u64.bits 127).toNat : Int)))) rfl (by simp)) rfl) (by intro c h; cases h) rfl ?_
      repeat' (first | (apply og_ops; (first | (apply og_assign; (apply op_assign (tt := tt); (focus ((conv => lhs; whnf); try exact rfl)); exact rfl)) | (apply ops_nil))) | (apply og_sat; (apply sat_ret)) | (apply pj_ret) | (apply pe_norm))
      (change fnPost _ _ _ _ _ _ _; apply fn_endN; (exact .inr rfl); (focus (repeat' (first | (apply rr_tmp; (focus ((conv => lhs; whnf); try exact rfl)); (exact Wk.same _)) | exact rr_nil))); exact rfl; (exact rfl); exact Nat.le_refl _; (focus (repeat' (first | exact trivial | refine ⟨?_, ?_⟩))); exact hso)
      refine ⟨?_, rfl⟩
      show PV.str (ofI _) = PV.str (ofI _)
      rw [← NumI.end_ (v := v) (k := v) (a := 9) (by omega) (by simp) hN0.2.2 h0]
    · have c0 : decide ((0 : Int) < (v : Int).fdiv (2 ^ min (Int.toNat 7) IntKind.u64.bits)) = true := by rw [fd_128]; exact decide_eq_true (by omega)
      obtain ⟨h1, hI⟩ := NumI.next hN0.2.1 hN0.1 (ys := (List.replicate 10 (0 : Int)).set 9 (IntKind.u8.wrap (IntKind.u64.wrap ((BitVec.ofInt IntKind.u64.bits (v : Int) &&& BitVec.ofInt IntKind.u64.bits 127).toNat : Int)))) rfl hN0.2.2 h0
      repeat' (first | (apply og_ops; (first | (apply og_move; (apply op_move (tt := tt); (focus ((conv => lhs; whnf); try exact rfl)); exact rfl)) | (apply og_assign; (apply op_assign (tt := tt); (focus ((conv => lhs; whnf); try exact rfl)); exact rfl)) | (apply og_bin; (apply op_bin true tab; (focus ((conv => lhs; whnf; arg 1; whnf; arg 2; whnf); try exact rfl)); (first | exact trivial | omega | (simp only [InR]; omega)); exact rfl)) | (apply og_indexAddr; (apply op_lk; (apply lk_idxA (tI := 3) tab; exact rfl; (focus ((conv => lhs; whnf); try exact rfl)); (focus ((conv => lhs; whnf); try exact rfl)); exact rfl; (omega)); (intro c h; cases h); exact rfl)) | (apply og_conv; (apply op_conv false tab; (focus ((conv => lhs; whnf; arg 1; whnf; arg 2; whnf); try exact rfl)); (exact trivial); exact rfl)) | (apply og_store; (apply op_storeX tab; exact rfl; exact rfl; exact rfl; exact rfl; exact rfl; exact rfl; exact rfl; exact rfl)) | (apply ops_nil))) | (apply og_sat; (first | (apply sat_seq) | (apply sat_region) | (apply sat_cond_t; exact rfl; (assumption)) | (apply sat_label) | (apply sat_goto))) | (apply pj_goto) | (apply pe_norm) | (apply pe_goto))
      exact ⟨_, hI, by (repeat' (first | exact trivial | exact Wk.same _ | refine ⟨?_, ?_⟩)), rfl⟩
  · rintro ⟨z, b, ys⟩ ⟨k, a, hz, hb', ha, hk, hl, hn⟩
    dsimp only at hz hb' hl hn ⊢
    subst hz hb'
    have hla : ys.length = 10 := hl
    by_cases h0 : k / 128 = 0
    · have c0 : decide ((0 : Int) < (k : Int).fdiv (2 ^ min (Int.toNat 7) IntKind.u64.bits)) = false := by rw [fd_128]; exact decide_eq_false (by omega)
      repeat' (first | (apply og_ops; (first | (apply og_move; (apply op_move (tt := tt); (focus ((conv => lhs; whnf); try exact rfl)); exact rfl)) | (apply og_assign; (apply op_assign (tt := tt); (focus ((conv => lhs; whnf); try exact rfl)); exact rfl)) | (apply og_bin; (apply op_bin true tab; (focus ((conv => lhs; whnf; arg 1; whnf; arg 2; whnf); try exact rfl)); (first | exact trivial | omega); exact rfl)) | (apply ops_nil))) | (apply og_sat; (first | (apply sat_seq) | (apply sat_region) | (apply sat_cond_f; exact rfl; (assumption)) | (apply sat_skip))) | (apply pe_norm))
      refine op_lk (lk_sliceAr tab rfl rfl rfl rfl rfl rfl ⟨by omega, by omega, by omega, by omega⟩) (by intro c h; cases h) rfl ?_
      refine op_lk (lk_bytesStr tab rfl rfl rfl rfl rfl (srcM_boxX (zs := ys) rfl ?_) rfl) (by intro c h; cases h) rfl ?_
      · show 0 + (a : Int).toNat * 1 + (10 - (a : Int).toNat) ≤ ys.length
        omega
      repeat' (first | (apply og_ops; (first | (apply og_assign; (apply op_assign (tt := tt); (focus ((conv => lhs; whnf); try exact rfl)); exact rfl)) | (apply ops_nil))) | (apply og_sat; (apply sat_ret)) | (apply pj_ret) | (apply pe_norm))
      (change fnPost _ _ _ _ _ _ _; apply fn_endN; (exact .inr rfl); (focus (repeat' (first | (apply rr_tmp; (focus ((conv => lhs; whnf); try exact rfl)); (exact Wk.same _)) | exact rr_nil))); exact rfl; (exact rfl); exact Nat.le_refl _; (focus (repeat' (first | exact trivial | refine ⟨?_, ?_⟩))); exact hso)
      refine ⟨?_, rfl⟩
      show PV.str (ofI ((ys.drop (0 + (a : Int).toNat * 1)).take (10 - (a : Int).toNat))) = PV.str (ofI _)
      rw [show 0 + (a : Int).toNat * 1 = a by omega, show (a : Int).toNat = a by omega, NumI.end_ ha hla hn h0]
    · have c0 : decide ((0 : Int) < (k : Int).fdiv (2 ^ min (Int.toNat 7) IntKind.u64.bits)) = true := by rw [fd_128]; exact decide_eq_true (by omega)
      obtain ⟨h1, hI⟩ := NumI.next ha hk hl hn h0
      repeat' (first | (apply og_ops; (first | (apply og_move; (apply op_move (tt := tt); (focus ((conv => lhs; whnf); try exact rfl)); exact rfl)) | (apply og_assign; (apply op_assign (tt := tt); (focus ((conv => lhs; whnf); try exact rfl)); exact rfl)) | (apply og_bin; (apply op_bin true tab; (focus ((conv => lhs; whnf; arg 1; whnf; arg 2; whnf); try exact rfl)); (first | exact trivial | omega | (simp only [InR]; omega)); exact rfl)) | (apply og_indexAddr; (apply op_lk; (apply lk_idxA (tI := 3) tab; exact rfl; (focus ((conv => lhs; whnf); try exact rfl)); (focus ((conv => lhs; whnf); try exact rfl)); exact rfl; (omega)); (intro c h; cases h); exact rfl)) | (apply og_conv; (apply op_conv false tab; (focus ((conv => lhs; whnf; arg 1; whnf; arg 2; whnf); try exact rfl)); (exact trivial); exact rfl)) | (apply og_store; (apply op_storeMX _ tab; exact rfl; exact rfl; exact rfl; (exact (rfl : _ = some (Ent.cells (List.map _ _)))); exact rfl; exact rfl; exact rfl; (omega))) | (apply ops_nil))) | (apply og_sat; (first | (apply sat_seq) | (apply sat_region) | (apply sat_cond_t; exact rfl; (assumption)) | (apply sat_skip) | (apply sat_goto))) | (apply pj_goto) | (apply pe_norm) | (apply pe_goto))
      exact ⟨_, hI, by show (Int.fdiv _ _).toNat < _; rw [fd_128]; simp; exact Nat.div_lt_self (by omega) (by decide), by (repeat' (first | exact trivial | exact Wk.same _ | refine ⟨?_, ?_⟩)), rfl⟩

end Go.Proofs.Ytbjmafbbjhoddaa.Pv
