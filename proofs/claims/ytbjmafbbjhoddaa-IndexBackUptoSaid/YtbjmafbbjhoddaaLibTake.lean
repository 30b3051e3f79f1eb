/- Texts as bytes; numbers and texts taken off bytes. -/
import Derived.Test.YtbjmafbbjhoddaaLibNum
namespace Go.Proofs.Ytbjmafbbjhoddaa.Pv
open Go
set_option linter.unusedVariables false
set_option linter.unusedSimpArgs false
set_option maxRecDepth 100000

theorem numT_len : ∀ (n v : Nat) (acc : List Int), v < 128 ^ n → (numT v acc).length ≤ acc.length + n
  | 0, v, acc, h => by
    have : v = 0 := by simpa using h
    subst this; rw [numT_0]; omega
  | n + 1, v, acc, h => by
    by_cases h0 : v = 0
    · subst h0; rw [numT_0]; omega
    · rw [numT_s h0]
      have := numT_len n (v / 128) (((v % 128 : Nat) + 128 : Int) :: acc) (by rw [Nat.pow_succ] at h; exact Nat.div_lt_of_lt_mul (by rw [Nat.mul_comm]; exact h))
      rw [List.length_cons] at this; omega
theorem numB_size {v : Nat} (h : v < 18446744073709551616) : (numB v).size ≤ 10 := by
  rw [numB, ofI_size]
  have := numT_len 9 (v / 128) [((v % 128 : Nat) : Int)] (by omega)
  simpa [numL] using this
theorem numT_pos : ∀ (n v : Nat) (acc : List Int), v < 128 ^ n → acc.length ≤ (numT v acc).length
  | 0, v, acc, h => by
    have : v = 0 := by simpa using h
    subst this; rw [numT_0]; omega
  | n + 1, v, acc, h => by
    by_cases h0 : v = 0
    · subst h0; rw [numT_0]; omega
    · rw [numT_s h0]
      have := numT_pos n (v / 128) (((v % 128 : Nat) + 128 : Int) :: acc) (by rw [Nat.pow_succ] at h; exact Nat.div_lt_of_lt_mul (by rw [Nat.mul_comm]; exact h))
      rw [List.length_cons] at this; omega
theorem numB_pos {v : Nat} (h : v < 18446744073709551616) : 1 ≤ (numB v).size := by
  rw [numB, ofI_size]
  have := numT_pos 9 (v / 128) [((v % 128 : Nat) : Int)] (by omega)
  simpa [numL] using this

def textB (t : ByteArray) : ByteArray := numB t.size ++ t
theorem text_sat (t : ByteArray) (h : t.size ≤ 9223372036854775797) (σ : Sto) : SatCall Try.prog 52 [.str t] σ fun r σ' => r = .str (textB t) ∧ σ' = σ := by
  refine sat_fn tab Try.func52 rfl (Nat.le_of_ble_eq_true rfl) (by decide) fun hso => sat_base ?_
  have hn := num_sat t.size (by omega)
  have hs := numB_size (v := t.size) (by omega)
  repeat' (first | (apply og_ops; (first | (apply og_move; (apply op_move (tt := tt); (focus ((conv => lhs; whnf); try exact rfl)); exact rfl)) | (apply og_assign; (apply op_assign (tt := tt); (focus ((conv => lhs; whnf); try exact rfl)); exact rfl)) | (apply og_callv; (refine op_callP (tt := tt) cal51 (hn _) rfl rfl rfl rfl rfl ?_)) | (apply og_bin; (apply op_bin true tab; (focus ((conv => lhs; whnf; arg 1; whnf; arg 2; whnf); try exact rfl)); (omega); exact rfl)) | (apply og_callb; (apply op_len tab; (focus ((conv => lhs; whnf; arg 1; whnf; arg 2; whnf); try exact rfl)); (exact trivial); exact rfl)) | (apply og_conv; (apply op_conv true tab; (focus ((conv => lhs; whnf; arg 1; whnf; arg 2; whnf); try exact rfl)); (simp only [InR]; omega); exact rfl)) | (apply ops_nil))) | (apply og_sat; (first | (apply sat_seq) | (apply sat_region) | (apply sat_ret))) | (apply pe_norm))
  (change fnPost _ _ _ _ _ _ _; apply fn_endN; (exact .inr rfl); (focus (repeat' (first | (apply rr_tmp; (focus ((conv => lhs; whnf); try exact rfl)); (exact Wk.same _)) | exact rr_nil))); exact rfl; (exact rfl); exact Nat.le_refl _; (focus (repeat' (first | exact trivial | refine ⟨?_, ?_⟩))); exact hso)
  exact ⟨rfl, rfl⟩
def tkN : List Int → Nat → Nat × List Int × Int
  | [], v => (0, [], 2)
  | b :: r, v => if 2 ^ 57 ≤ v then (0, [], 3) else if b < 128 then (v * 128 + b.toNat % 128, r, 0) else tkN r (v * 128 + b.toNat % 128)
def takeL (l : List Int) : Nat × List Int × Int := if l = [] then (0, [], 2) else if l.getD 0 0 = 128 then (0, [], 3) else tkN l 0
def takeN (s : ByteArray) : Nat × ByteArray × Int := ((takeL (bi s)).1, ofI (takeL (bi s)).2.1, (takeL (bi s)).2.2)

theorem drop_getD {l : List Int} {i : Nat} (h : i < l.length) : l.drop i = l.getD i 0 :: l.drop (i + 1) := by
  rw [List.drop_eq_getElem_cons h, List.getD_eq_getElem?_getD, List.getElem?_eq_getElem h]; rfl

theorem ofI_drop (s : ByteArray) {i : Nat} (h : i < s.size) : ofI ((bi s).drop (i + 1)) = s.extract ((i : Int) + 1).toNat ((s.size : Int)).toNat := by
  apply bi_inj
  rw [bi_extract, bi_ofI (fun x hx => bi_mem (List.mem_of_mem_drop hx)), show ((s.size : Int)).toNat = s.size by omega, show ((i : Int) + 1).toNat = i + 1 by omega, List.take_of_length_le (by rw [bi_len]; exact Nat.le_refl _)]
theorem step_impl {k : Nat} {b : Int} (hk : k < 2 ^ 57) (hb : 0 ≤ b ∧ b ≤ 255) :
    IntKind.u64.wrap ((BitVec.ofInt IntKind.u64.bits (IntKind.u64.wrap ((k : Int) * 2 ^ min (Int.toNat 7) IntKind.u64.bits)) ||| BitVec.ofInt IntKind.u64.bits (IntKind.u64.wrap (IntKind.u8.wrap ((BitVec.ofInt IntKind.u8.bits b &&& BitVec.ofInt IntKind.u8.bits 127).toNat : Int)))).toNat : Int) = ((k * 128 + b.toNat % 128 : Nat) : Int) := by
  have h1 : IntKind.u8.wrap ((BitVec.ofInt IntKind.u8.bits b &&& BitVec.ofInt IntKind.u8.bits 127).toNat : Int) = ((b.toNat % 128 : Nat) : Int) := by
    have : ∀ m : Fin 256, IntKind.u8.wrap ((BitVec.ofInt IntKind.u8.bits ((m.1 : Nat) : Int) &&& BitVec.ofInt IntKind.u8.bits 127).toNat : Int) = ((m.1 % 128 : Nat) : Int) := by decide +kernel
    have := this ⟨b.toNat, by omega⟩
    rw [show ((b.toNat : Nat) : Int) = b by omega] at this
    exact this
  rw [h1]
  have h2 : IntKind.u64.wrap ((b.toNat % 128 : Nat) : Int) = ((b.toNat % 128 : Nat) : Int) := by
    simp [IntKind.wrap, IntKind.bits, IntKind.signed]; omega
  rw [h2]
  have hm : b.toNat % 128 < 2 ^ 7 := Nat.mod_lt _ (by decide)
  generalize b.toNat % 128 = m at *
  have e0 : IntKind.u64.wrap ((k : Int) * 2 ^ min (Int.toNat 7) IntKind.u64.bits) = (k : Int) * 128 := by
    rw [show (2 ^ min (Int.toNat 7) IntKind.u64.bits : Int) = 128 from rfl]
    simp [IntKind.wrap, IntKind.bits, IntKind.signed]; omega
  have e1 : (BitVec.ofInt IntKind.u64.bits (IntKind.u64.wrap ((k : Int) * 2 ^ min (Int.toNat 7) IntKind.u64.bits))).toNat = 2 ^ 7 * k := by
    rw [e0]
    show (BitVec.ofInt 64 ((k : Int) * 128)).toNat = _
    rw [BitVec.toNat_ofInt]; omega
  have e2 : (BitVec.ofInt IntKind.u64.bits (m : Int)).toNat = m := by
    show (BitVec.ofInt 64 (m : Int)).toNat = _
    rw [BitVec.toNat_ofInt]; omega
  rw [BitVec.toNat_or, e1, e2, ← Nat.two_pow_add_eq_or_of_lt hm]
  simp [IntKind.wrap, IntKind.bits, IntKind.signed]; omega

theorem takeNum_sat (s : ByteArray) (hs : s.size ≤ 9223372036854775807) (σ : Sto) : SatCall Try.prog 92 [.str s] σ fun r σ' => r = .tup [.int .u64 (takeN s).1, .str (takeN s).2.1, .int .i64 (takeN s).2.2] ∧ σ' = σ := by
  refine sat_fn tab Try.func92 rfl (Nat.le_of_ble_eq_true rfl) (by decide) fun hso => sat_base ?_
  have hbl := bi_len s
  by_cases h0 : bi s = []
  · have h0' : s = ⟨#[]⟩ := bi_inj h0
    have c0 : beqS s ⟨#[]⟩ = true := beqS_iff.2 h0'
    have e : takeN s = (0, ⟨#[]⟩, 2) := by simp [takeN, takeL, h0, ofI]
    rw [e]
    repeat' (first | (apply og_ops; (first | (apply og_move; (apply op_move (tt := tt); (focus ((conv => lhs; whnf); try exact rfl)); exact rfl)) | (apply og_assign; (apply op_assign (tt := tt); (focus ((conv => lhs; whnf); try exact rfl)); exact rfl)) | (apply og_bin; (apply op_bin true tab; (focus ((conv => lhs; whnf; arg 1; whnf; arg 2; whnf); try exact rfl)); (exact trivial); exact rfl)) | (apply ops_nil))) | (apply og_sat; (first | (apply sat_seq) | (apply sat_region) | (apply sat_cond_t; exact rfl; (assumption)) | (apply sat_ret))) | (apply pe_norm) | (apply pe_ret))
    (change fnPost _ _ _ _ _ _ _; apply fn_endN; (exact .inr rfl); (focus (repeat' (first | (apply rr_tmp; (focus ((conv => lhs; whnf); try exact rfl)); (exact Wk.same _)) | exact rr_nil))); exact rfl; (exact rfl); exact Nat.le_refl _; (focus (repeat' (first | exact trivial | refine ⟨?_, ?_⟩))); exact hso)
    exact ⟨rfl, rfl⟩
  have h0' : 0 < s.size := by rw [← hbl]; exact List.length_pos_iff.2 h0
  have c0 : beqS s ⟨#[]⟩ = false := by
    cases hb : beqS s ⟨#[]⟩ with
    | false => rfl
    | true => exact absurd (by rw [beqS_iff.1 hb]; rfl) h0
  by_cases h1 : (bi s).getD 0 0 = 128
  · have c1 : (bt s 0 == 128) = true := by rw [bt_bi]; exact beq_iff_eq.2 h1
    have e : takeN s = (0, ⟨#[]⟩, 3) := by simp only [takeN, takeL, if_neg h0, if_pos h1]; rfl
    rw [e]
    repeat' (first | (apply og_ops; (first | (apply og_move; (apply op_move (tt := tt); (focus ((conv => lhs; whnf); try exact rfl)); exact rfl)) | (apply og_assign; (apply op_assign (tt := tt); (focus ((conv => lhs; whnf); try exact rfl)); exact rfl)) | (apply og_bin; (apply op_bin true tab; (focus ((conv => lhs; whnf; arg 1; whnf; arg 2; whnf); try exact rfl)); (exact trivial); exact rfl)) | (apply og_index; (apply op_index tab (tI := 3); (focus ((conv => lhs; whnf; arg 1; whnf; arg 2; whnf); try exact rfl)); (omega); exact rfl)) | (apply ops_nil))) | (apply og_sat; (first | (apply sat_seq) | (apply sat_region) | (apply sat_cond_t; exact rfl; (assumption)) | (apply sat_cond_f; exact rfl; (assumption)) | (apply sat_skip) | (apply sat_ret))) | (apply pe_norm) | (apply pe_ret))
    (change fnPost _ _ _ _ _ _ _; apply fn_endN; (exact .inr rfl); (focus (repeat' (first | (apply rr_tmp; (focus ((conv => lhs; whnf); try exact rfl)); (exact Wk.same _)) | exact rr_nil))); exact rfl; (exact rfl); exact Nat.le_refl _; (focus (repeat' (first | exact trivial | refine ⟨?_, ?_⟩))); exact hso)
    exact ⟨rfl, rfl⟩
  have c1 : (bt s 0 == 128) = false := by rw [bt_bi]; simpa using h1
  have e : takeN s = ((tkN (bi s) 0).1, ofI (tkN (bi s) 0).2.1, (tkN (bi s) 0).2.2) := by simp only [takeN, takeL, if_neg h0, if_neg h1]
  rw [e]
  repeat' (first | (apply og_ops; (first | (apply og_move; (apply op_move (tt := tt); (focus ((conv => lhs; whnf); try exact rfl)); exact rfl)) | (apply og_assign; (apply op_assign (tt := tt); (focus ((conv => lhs; whnf); try exact rfl)); exact rfl)) | (apply og_bin; (apply op_bin true tab; (focus ((conv => lhs; whnf; arg 1; whnf; arg 2; whnf); try exact rfl)); (exact trivial); exact rfl)) | (apply og_callb; (apply op_len tab; (focus ((conv => lhs; whnf; arg 1; whnf; arg 2; whnf); try exact rfl)); (exact trivial); exact rfl)) | (apply og_index; (apply op_index tab (tI := 3); (focus ((conv => lhs; whnf; arg 1; whnf; arg 2; whnf); try exact rfl)); (omega); exact rfl)) | (apply ops_nil))) | (apply og_sat; (first | (apply sat_seq) | (apply sat_region) | (apply sat_cond_f; exact rfl; (assumption)) | (apply sat_skip) | (apply sat_block))) | (apply pe_norm))
  refine sat_loopW (fun x : Nat × Int => [(0, .str s), (5, .int .u64 x.2), (13, .int .i64 s.size), (14, .int .i64 x.1)]) (fun _ => σ ++ []) (fun x => x.1 ≤ s.size ∧ ∃ k : Nat, x.2 = k ∧ tkN ((bi s).drop x.1) k = tkN (bi s) 0) (fun x => s.size - x.1) (0, 0) ⟨Nat.zero_le _, 0, rfl, rfl⟩ ?_ rfl ?_
  · (repeat' (first | exact trivial | exact Wk.same _ | refine ⟨?_, ?_⟩))
  rintro ⟨i, z⟩ ⟨hi, k, hz, hk⟩
  dsimp only at hi hz hk ⊢
  subst hz
  rcases Nat.lt_or_ge i s.size with hlt | hge
  · have d1 : decide ((i : Int) < (s.size : Int)) = true := decide_eq_true (by omega)
    rw [drop_getD (by omega), tkN] at hk
    have sh : ((k : Int).fdiv (2 ^ min (Int.toNat 57) IntKind.u64.bits)) = ((k / 2 ^ 57 : Nat) : Int) := by
      rw [show (2 ^ min (Int.toNat 57) IntKind.u64.bits : Int) = 2 ^ 57 from rfl, Int.fdiv_eq_ediv_of_nonneg _ (by decide)]; omega
    by_cases hb : 2 ^ 57 ≤ k
    · have d2 : decide ((0 : Int) < (k : Int).fdiv (2 ^ min (Int.toNat 57) IntKind.u64.bits)) = true := by rw [sh]; exact decide_eq_true (by omega)
      rw [if_pos hb] at hk
      rw [← hk]
      repeat' (first | (apply og_ops; (first | (apply og_move; (apply op_move (tt := tt); (focus ((conv => lhs; whnf); try exact rfl)); exact rfl)) | (apply og_assign; (apply op_assign (tt := tt); (focus ((conv => lhs; whnf); try exact rfl)); exact rfl)) | (apply og_bin; (apply op_bin true tab; (focus ((conv => lhs; whnf; arg 1; whnf; arg 2; whnf); try exact rfl)); (first | exact trivial | omega); exact rfl)) | (apply ops_nil))) | (apply og_sat; (first | (apply sat_seq) | (apply sat_region) | (apply sat_cond_t; exact rfl; (assumption)) | (apply sat_skip) | (apply sat_ret) | (apply sat_block))) | (apply pe_norm) | (apply pe_ret) | (apply pb_ret))
      (change fnPost _ _ _ _ _ _ _; apply fn_endN; (exact .inr rfl); (focus (repeat' (first | (apply rr_tmp; (focus ((conv => lhs; whnf); try exact rfl)); (exact Wk.same _)) | exact rr_nil))); exact rfl; (exact rfl); exact Nat.le_refl _; (focus (repeat' (first | exact trivial | refine ⟨?_, ?_⟩))); exact hso)
      exact ⟨rfl, rfl⟩
    have d2 : decide ((0 : Int) < (k : Int).fdiv (2 ^ min (Int.toNat 57) IntKind.u64.bits)) = false := by rw [sh]; exact decide_eq_false (by omega)
    rw [if_neg hb] at hk
    have hx := bi_mem (s := s) (x := (bi s).getD i 0) (by rw [List.getD_eq_getElem?_getD, List.getElem?_eq_getElem (by omega)]; exact List.getElem_mem _)
    have eb : bt s (i : Int) = (bi s).getD i 0 := by rw [bt_bi, Int.toNat_natCast]
    by_cases hc : (bi s).getD i 0 < 128
    · have d3 : decide (bt s (i : Int) < 128) = true := decide_eq_true (by rw [eb]; exact hc)
      rw [if_pos hc] at hk
      rw [← hk]
      repeat' (first | (apply og_ops; (first | (apply og_move; (apply op_move (tt := tt); (focus ((conv => lhs; whnf); try exact rfl)); exact rfl)) | (apply og_assign; (apply op_assign (tt := tt); (focus ((conv => lhs; whnf); try exact rfl)); exact rfl)) | (apply og_bin; (first | (apply op_bin true tab; (focus ((conv => lhs; whnf; arg 1; whnf; arg 2; whnf); try exact rfl)); (first | exact trivial | omega); exact rfl) | (apply op_bin false tab; (focus ((conv => lhs; whnf; arg 1; whnf; arg 2; whnf); try exact rfl)); (omega); exact rfl))) | (apply og_conv; (apply op_conv false tab; (focus ((conv => lhs; whnf; arg 1; whnf; arg 2; whnf); try exact rfl)); (exact trivial); exact rfl)) | (apply og_index; (apply op_index tab (tI := 3); (focus ((conv => lhs; whnf; arg 1; whnf; arg 2; whnf); try exact rfl)); (omega); exact rfl)) | (apply ops_nil))) | (apply og_sat; (first | (apply sat_seq) | (apply sat_region) | (apply sat_cond_t; exact rfl; (assumption)) | (apply sat_cond_f; exact rfl; (assumption)) | (apply sat_skip) | (apply sat_ret) | (apply sat_block) | (apply sat_drawC (k := 6); exact mixed; decide +kernel; decide +kernel))) | (apply pe_norm) | (apply pe_ret) | (apply pb_ret) | (apply og_dd; (first | (apply dd_lk; (first | (apply lg_move; (apply lk_move (tt := tt); (focus ((conv => lhs; whnf); try exact rfl)))) | (apply lg_assign; (apply lk_assign (tt := tt); (focus ((conv => lhs; whnf); try exact rfl)))) | (apply lg_bin; (apply lk_bin true tab; (focus ((conv => lhs; whnf; arg 1; whnf; arg 2; whnf); try exact rfl)); (simp only [InR]; omega))) | (apply lg_slice; (apply lk_slice tab; (focus ((conv => lhs; whnf; arg 1; whnf; arg 2; whnf); try exact rfl)); (omega)))); exact rfl; exact rfl) | (apply dd_nil))))
      (change fnPost _ _ _ _ _ _ _; apply fn_endN; (exact .inr rfl); (focus (repeat' (first | (apply rr_tmp; (focus ((conv => lhs; whnf); try exact rfl)); (exact Wk.same _)) | exact rr_nil))); exact rfl; (exact rfl); exact Nat.le_refl _; (focus (repeat' (first | exact trivial | refine ⟨?_, ?_⟩))); exact hso)
      refine ⟨?_, rfl⟩
      rw [← eb, ofI_drop s hlt]
      show PV.tup [.int .u64 _, _, _] = _
      rw [step_impl (by omega) (by rw [eb]; exact hx)]
    · have d3 : decide (bt s (i : Int) < 128) = false := decide_eq_false (by rw [eb]; exact hc)
      rw [if_neg hc] at hk
      repeat' (first | (apply og_ops; (first | (apply og_move; (apply op_move (tt := tt); (focus ((conv => lhs; whnf); try exact rfl)); exact rfl)) | (apply og_assign; (apply op_assign (tt := tt); (focus ((conv => lhs; whnf); try exact rfl)); exact rfl)) | (apply og_bin; (first | (apply op_bin true tab; (focus ((conv => lhs; whnf; arg 1; whnf; arg 2; whnf); try exact rfl)); (first | exact trivial | omega | (simp only [InR]; omega)); exact rfl) | (apply op_bin false tab; (focus ((conv => lhs; whnf; arg 1; whnf; arg 2; whnf); try exact rfl)); (omega); exact rfl))) | (apply og_conv; (apply op_conv false tab; (focus ((conv => lhs; whnf; arg 1; whnf; arg 2; whnf); try exact rfl)); (exact trivial); exact rfl)) | (apply og_index; (apply op_index tab (tI := 3); (focus ((conv => lhs; whnf; arg 1; whnf; arg 2; whnf); try exact rfl)); (omega); exact rfl)) | (apply ops_nil))) | (apply og_sat; (first | (apply sat_seq) | (apply sat_region) | (apply sat_cond_t; exact rfl; (assumption)) | (apply sat_cond_f; exact rfl; (assumption)) | (apply sat_skip) | (apply sat_block))) | (apply pe_norm) | (apply pb_norm))
      refine ⟨(i + 1, IntKind.u64.wrap ((BitVec.ofInt IntKind.u64.bits (IntKind.u64.wrap ((k : Int) * 2 ^ min (Int.toNat 7) IntKind.u64.bits)) ||| BitVec.ofInt IntKind.u64.bits (IntKind.u64.wrap (IntKind.u8.wrap ((BitVec.ofInt IntKind.u8.bits (bt s (i : Int)) &&& BitVec.ofInt IntKind.u8.bits 127).toNat : Int)))).toNat : Int)), ⟨by show i + 1 ≤ _; omega, k * 128 + ((bi s).getD i 0).toNat % 128, by rw [← eb]; exact step_impl (by omega) (by rw [eb]; exact hx), hk⟩, by show s.size - (i + 1) < _; omega, ?_, rfl⟩
      (repeat' (first | exact trivial | exact Wk.same _ | refine ⟨?_, ?_⟩))
  · have d1 : decide ((i : Int) < (s.size : Int)) = false := decide_eq_false (by omega)
    rw [List.drop_eq_nil_of_le (by omega), tkN] at hk
    rw [← hk]
    repeat' (first | (apply og_ops; (first | (apply og_assign; (apply op_assign (tt := tt); (focus ((conv => lhs; whnf); try exact rfl)); exact rfl)) | (apply og_bin; (apply op_bin true tab; (focus ((conv => lhs; whnf; arg 1; whnf; arg 2; whnf); try exact rfl)); (exact trivial); exact rfl)) | (apply ops_nil))) | (apply og_sat; (first | (apply sat_seq) | (apply sat_region) | (apply sat_cond_f; exact rfl; (assumption)) | (apply sat_ret) | (apply sat_exit))) | (apply pe_norm) | (apply pe_exit) | (apply pb_same))
    (change fnPost _ _ _ _ _ _ _; apply fn_endN; (exact .inr rfl); (focus (repeat' (first | (apply rr_tmp; (focus ((conv => lhs; whnf); try exact rfl)); (exact Wk.same _)) | exact rr_nil))); exact rfl; (exact rfl); exact Nat.le_refl _; (focus (repeat' (first | exact trivial | refine ⟨?_, ?_⟩))); exact hso)
    exact ⟨rfl, rfl⟩

theorem tkN_bound : ∀ (l : List Int) (v : Nat), (tkN l v).1 < 18446744073709551616 ∧ (tkN l v).2.1.length ≤ l.length
  | [], v => ⟨by simp [tkN], by simp [tkN]⟩
  | b :: r, v => by
    rw [tkN]
    split
    · exact ⟨by simp, by simp⟩
    split
    · refine ⟨?_, by simp⟩
      show v * 128 + b.toNat % 128 < _
      omega
    · obtain ⟨h1, h2⟩ := tkN_bound r (v * 128 + b.toNat % 128)
      exact ⟨h1, by simp; omega⟩
theorem takeN_bound (s : ByteArray) : (takeN s).1 < 18446744073709551616 ∧ (takeN s).2.1.size ≤ s.size := by
  have h := tkN_bound (bi s) 0
  rw [bi_len] at h
  unfold takeN takeL
  dsimp only
  rw [ofI_size]
  split
  · exact ⟨by simp, by simp⟩
  split
  · exact ⟨by simp, by simp⟩
  · exact h

def takeT (s : ByteArray) (most : Nat) : ByteArray × ByteArray × Int :=
  if (takeN s).2.2 ≠ 0 then (⟨#[]⟩, ⟨#[]⟩, (takeN s).2.2) else if most < (takeN s).1 then (⟨#[]⟩, ⟨#[]⟩, 4) else if (takeN s).2.1.size < (takeN s).1 then (⟨#[]⟩, ⟨#[]⟩, 2)
  else ((takeN s).2.1.extract 0 (takeN s).1, (takeN s).2.1.extract (takeN s).1 (takeN s).2.1.size, 0)
def textOut (q : ByteArray × ByteArray × Int) : PV := .tup [.str q.1, .str q.2.1, .int .i64 q.2.2]

set_option maxHeartbeats 1000000 in
theorem takeText_sat (s : ByteArray) (most : Nat) (hs : s.size ≤ 9223372036854775807) (hm : most ≤ 1048576) (σ : Sto) : SatCall Try.prog 59 [.str s, .int .i64 most] σ fun r σ' => r = textOut (takeT s most) ∧ σ' = σ := by
  refine sat_fn tab Try.func59 rfl (Nat.le_of_ble_eq_true rfl) (by decide) fun hso => sat_base ?_
  have hq := takeNum_sat s hs
  obtain ⟨b1, b2⟩ := takeN_bound s
  unfold takeT
  generalize takeN s = q at *
  obtain ⟨n, t, e⟩ := q
  dsimp only at *
  have m0 : decide ((most : Int) < 0) = false := decide_eq_false (by omega)
  by_cases h1 : e ≠ 0
  · have c1 : (e != 0) = true := by simpa using h1
    rw [if_pos h1]
    repeat' (first | (apply og_ops; (first | (apply og_move; (apply op_move (tt := tt); (focus ((conv => lhs; whnf); try exact rfl)); exact rfl)) | (apply og_assign; (apply op_assign (tt := tt); (focus ((conv => lhs; whnf); try exact rfl)); exact rfl)) | (apply og_callv; (refine op_callP (tt := tt) cal92 (hq _) rfl rfl rfl rfl rfl ?_)) | (apply og_bin; (apply op_bin true tab; (focus ((conv => lhs; whnf; arg 1; whnf; arg 2; whnf); try exact rfl)); (exact trivial); exact rfl)) | (apply og_extract; (apply op_extract (tt := tt); (focus ((conv => lhs; whnf; arg 1; whnf; arg 2; whnf); try exact rfl)); (exact trivial); exact rfl)) | (apply ops_nil))) | (apply og_sat; (first | (apply sat_seq) | (apply sat_region) | (apply sat_cond_t; exact rfl; (assumption)) | (apply sat_ret) | (apply sat_block))) | (apply pe_norm) | (apply pe_ret) | (apply pb_ret))
    (change fnPost _ _ _ _ _ _ _; apply fn_endN; (exact .inr rfl); (focus (repeat' (first | (apply rr_tmp; (focus ((conv => lhs; whnf); try exact rfl)); (exact Wk.same _)) | exact rr_nil))); exact rfl; (exact rfl); exact Nat.le_refl _; (focus (repeat' (first | exact trivial | refine ⟨?_, ?_⟩))); exact hso)
    exact ⟨rfl, rfl⟩
  have c1 : (e != 0) = false := by simpa using h1
  rw [if_neg h1]
  by_cases h2 : most < n
  · have c2 : decide ((most : Int) < (n : Int)) = true := decide_eq_true (by omega)
    rw [if_pos h2]
    repeat' (first | (apply og_ops; (first | (apply og_guard; (apply ops_guard_t; exact (rfl : _ = some _); exact (rfl : _ = PV.bool _); (exact rfl))) | (apply og_move; (apply op_move (tt := tt); (focus ((conv => lhs; whnf); try exact rfl)); exact rfl)) | (apply og_assign; (apply op_assign (tt := tt); (focus ((conv => lhs; whnf); try exact rfl)); exact rfl)) | (apply og_callv; (refine op_callP (tt := tt) cal92 (hq _) rfl rfl rfl rfl rfl ?_)) | (apply og_bin; (apply op_bin true tab; (focus ((conv => lhs; whnf; arg 1; whnf; arg 2; whnf); try exact rfl)); (exact trivial); exact rfl)) | (apply og_pick; (apply op_pick (tt := tt); exact (rfl : _ = PV.bool _); (refine .inr ⟨rfl, ?_⟩); (focus ((conv => lhs; whnf); try exact rfl)); exact ltn rfl)) | (apply og_conv; (apply op_conv true tab; (focus ((conv => lhs; whnf; arg 1; whnf; arg 2; whnf); try exact rfl)); (simp only [InR]; omega); exact rfl)) | (apply og_extract; (apply op_extract (tt := tt); (focus ((conv => lhs; whnf; arg 1; whnf; arg 2; whnf); try exact rfl)); (exact trivial); exact rfl)) | (apply ops_nil))) | (apply og_sat; (first | (apply sat_seq) | (apply sat_region) | (apply sat_cond_t; exact rfl; (assumption)) | (apply sat_cond_f; exact rfl; (assumption)) | (apply sat_ret) | (apply sat_block))) | (apply pe_norm) | (apply pe_ret) | (apply pb_ret))
    (change fnPost _ _ _ _ _ _ _; apply fn_endN; (exact .inr rfl); (focus (repeat' (first | (apply rr_tmp; (focus ((conv => lhs; whnf); try exact rfl)); (exact Wk.same _)) | exact rr_nil))); exact rfl; (exact rfl); exact Nat.le_refl _; (focus (repeat' (first | exact trivial | refine ⟨?_, ?_⟩))); exact hso)
    exact ⟨rfl, rfl⟩
  have c2 : decide ((most : Int) < (n : Int)) = false := decide_eq_false (by omega)
  rw [if_neg h2]
  by_cases h3 : t.size < n
  · have c3 : decide ((t.size : Int) < (n : Int)) = true := decide_eq_true (by omega)
    rw [if_pos h3]
    repeat' (first | (apply og_ops; (first | (apply og_guard; (apply ops_guard_t; exact (rfl : _ = some _); exact (rfl : _ = PV.bool _); (exact rfl))) | (apply og_move; (apply op_move (tt := tt); (focus ((conv => lhs; whnf); try exact rfl)); exact rfl)) | (apply og_assign; (apply op_assign (tt := tt); (focus ((conv => lhs; whnf); try exact rfl)); exact rfl)) | (apply og_callv; (refine op_callP (tt := tt) cal92 (hq _) rfl rfl rfl rfl rfl ?_)) | (apply og_bin; (apply op_bin true tab; (focus ((conv => lhs; whnf; arg 1; whnf; arg 2; whnf); try exact rfl)); (exact trivial); exact rfl)) | (apply og_pick; (apply op_pick (tt := tt); exact (rfl : _ = PV.bool _); (refine .inr ⟨rfl, ?_⟩); (focus ((conv => lhs; whnf); try exact rfl)); exact ltn rfl)) | (apply og_callb; (apply op_len tab; (focus ((conv => lhs; whnf; arg 1; whnf; arg 2; whnf); try exact rfl)); (exact trivial); exact rfl)) | (apply og_conv; (apply op_conv true tab; (focus ((conv => lhs; whnf; arg 1; whnf; arg 2; whnf); try exact rfl)); (simp only [InR]; omega); exact rfl)) | (apply og_extract; (apply op_extract (tt := tt); (focus ((conv => lhs; whnf; arg 1; whnf; arg 2; whnf); try exact rfl)); (exact trivial); exact rfl)) | (apply ops_nil))) | (apply og_sat; (first | (apply sat_seq) | (apply sat_region) | (apply sat_cond_t; exact rfl; (assumption)) | (apply sat_cond_f; exact rfl; (assumption)) | (apply sat_ret) | (apply sat_block))) | (apply pe_norm) | (apply pe_ret) | (apply pb_ret))
    (change fnPost _ _ _ _ _ _ _; apply fn_endN; (exact .inr rfl); (focus (repeat' (first | (apply rr_tmp; (focus ((conv => lhs; whnf); try exact rfl)); (exact Wk.same _)) | exact rr_nil))); exact rfl; (exact rfl); exact Nat.le_refl _; (focus (repeat' (first | exact trivial | refine ⟨?_, ?_⟩))); exact hso)
    exact ⟨rfl, rfl⟩
  have c3 : decide ((t.size : Int) < (n : Int)) = false := decide_eq_false (by omega)
  rw [if_neg h3]
  repeat' (first | (apply og_ops; (first | (apply og_guard; (apply ops_guard_t; exact (rfl : _ = some _); exact (rfl : _ = PV.bool _); (exact rfl))) | (apply og_move; (apply op_move (tt := tt); (focus ((conv => lhs; whnf); try exact rfl)); exact rfl)) | (apply og_assign; (apply op_assign (tt := tt); (focus ((conv => lhs; whnf); try exact rfl)); exact rfl)) | (apply og_callv; (refine op_callP (tt := tt) cal92 (hq _) rfl rfl rfl rfl rfl ?_)) | (apply og_bin; (apply op_bin true tab; (focus ((conv => lhs; whnf; arg 1; whnf; arg 2; whnf); try exact rfl)); (exact trivial); exact rfl)) | (apply og_pick; (apply op_pick (tt := tt); exact (rfl : _ = PV.bool _); (refine .inr ⟨rfl, ?_⟩); (focus ((conv => lhs; whnf); try exact rfl)); exact ltn rfl)) | (apply og_callb; (apply op_len tab; (focus ((conv => lhs; whnf; arg 1; whnf; arg 2; whnf); try exact rfl)); (exact trivial); exact rfl)) | (apply og_conv; (apply op_conv true tab; (focus ((conv => lhs; whnf; arg 1; whnf; arg 2; whnf); try exact rfl)); (simp only [InR]; omega); exact rfl)) | (apply og_extract; (apply op_extract (tt := tt); (focus ((conv => lhs; whnf; arg 1; whnf; arg 2; whnf); try exact rfl)); (exact trivial); exact rfl)) | (apply ops_nil))) | (apply og_sat; (first | (apply sat_seq) | (apply sat_region) | (apply sat_cond_f; exact rfl; (assumption)) | (apply sat_skip) | (apply sat_ret) | (apply sat_block) | (apply sat_drawC (k := 7); exact mixed; decide +kernel; decide +kernel))) | (apply pe_norm) | (apply pb_norm) | (apply og_dd; (first | (apply dd_lk; (first | (apply lg_move; (apply lk_move (tt := tt); (focus ((conv => lhs; whnf); try exact rfl)))) | (apply lg_assign; (apply lk_assign (tt := tt); (focus ((conv => lhs; whnf); try exact rfl)))) | (apply lg_slice; (apply lk_slice tab; (focus ((conv => lhs; whnf; arg 1; whnf; arg 2; whnf); try exact rfl)); (omega)))); exact rfl; exact rfl) | (apply dd_nil))))
  (change fnPost _ _ _ _ _ _ _; apply fn_endN; (exact .inr rfl); (focus (repeat' (first | (apply rr_tmp; (focus ((conv => lhs; whnf); try exact rfl)); (exact Wk.same _)) | exact rr_nil))); exact rfl; (exact rfl); exact Nat.le_refl _; (focus (repeat' (first | exact trivial | refine ⟨?_, ?_⟩))); exact hso)
  exact ⟨rfl, rfl⟩

end Go.Proofs.Ytbjmafbbjhoddaa.Pv
