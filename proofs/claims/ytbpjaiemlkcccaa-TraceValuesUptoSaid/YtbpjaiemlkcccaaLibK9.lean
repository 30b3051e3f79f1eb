import Derived.Test.YtbpjaiemlkcccaaTy
import Derived.Test.YtbpjaiemlkcccaaEq
import Derived.Test.YtbpjaiemlkcccaaPvZu
set_option linter.unusedVariables false
set_option linter.unusedSimpArgs false
section
/- Numbers and texts as bytes. -/
namespace Go.Proofs.Ytbpjaiemlkcccaa.Pv
open Go
set_option maxRecDepth 100000
def adl (v : Nat) (acc : List Int) : List Int := if h : v = 0 then acc else adl (v / 128) (((v % 128 : Nat) + 128 : Int) :: acc)
termination_by v
decreasing_by exact Nat.div_lt_self (by omega) (by omega)
def aeu (v : Nat) : List Int := adl (v / 128) [((v % 128 : Nat) : Int)]
def o5 (v : Nat) : ByteArray := ofI (aeu v)
theorem adu (acc : List Int) : adl 0 acc = acc := by rw [adl]; simp
theorem afq {v : Nat} (h : v ≠ 0) (acc : List Int) : adl v acc = adl (v / 128) (((v % 128 : Nat) + 128 : Int) :: acc) := by conv => lhs; rw [adl]; rw [dif_neg h]
theorem as9 {k l : Nat} (h0 : k ≠ 0) (h : k * 2 ^ l ≤ 2 ^ 65) : (k : Int) < 18446744073709551616 * 2 + 1 ∧ l + 1 ≤ 66 ∧ k / 128 * 2 ^ (l + 1) ≤ 2 ^ 65 := by
  have hp : 0 < 2 ^ l := Nat.pow_pos (by decide)
  refine ⟨?_, ?_, ?_⟩
  · have : k * 1 ≤ k * 2 ^ l := Nat.mul_le_mul_left _ hp
    omega
  · have : 1 * 2 ^ l ≤ k * 2 ^ l := Nat.mul_le_mul_right _ (Nat.pos_of_ne_zero h0)
    rw [Nat.one_mul] at this
    have := (Nat.pow_le_pow_iff_right (by decide : 1 < 2)).1 (Nat.le_trans this h)
    omega
  · calc k / 128 * 2 ^ (l + 1) = k / 128 * 2 * 2 ^ l := by rw [Nat.pow_succ, Nat.mul_assoc, Nat.mul_comm (2 ^ l) 2]
      _ ≤ k * 2 ^ l := Nat.mul_le_mul_right _ (by omega)
      _ ≤ _ := h
theorem aj2 (v : Nat) (hv : v < 18446744073709551616) (σ : Sto) : jo Try.prog 39 [.int .u64 v] σ fun r σ' => r = .str (o5 v) ∧ σ' = σ := by
  refine ny tab Try.func39 rfl (nlb rfl) (by decide) fun hso => oh ?_
  have w8 : ∀ k : Nat, IntKind.u8.wrap ((k : Int).tmod 128) = ((k % 128 : Nat) : Int) := fun k => by
    rw [show ((k : Int).tmod 128) = ((k % 128 : Nat) : Int) by rw [Int.tmod_eq_emod_of_nonneg (by omega)]; omega]
    simp [IntKind.wrap, IntKind.bits, IntKind.signed]; omega
  have td : ∀ k : Nat, ((k : Int).tdiv 128) = ((k / 128 : Nat) : Int) := fun k => by rw [Int.tdiv_eq_ediv_of_nonneg (by omega)]; omega
  repeat' (first | (apply bn; (first | (apply bv; (apply bu (tt := tt); (focus (conv => lhs; whnf); try exact rfl); exact rfl)) | (apply ai; (apply az (tt := tt); (focus (conv => lhs; whnf); try exact rfl); exact rfl)) | (apply dw; (apply di true tab; (focus (conv => lhs; whnf; arg 1; whnf; arg 2; whnf); try exact rfl); (first | omega | (simp [InR] at *; omega)); exact rfl)) | (apply tq; (first | (apply aa; (apply fe tab; exact rfl; exact rfl; exact rfl; exact rfl; (focus (conv => lhs; whnf); try exact rfl); (exact ic); exact rfl); (intro c h; cases h); exact rfl) | (apply pz false tab; (focus (conv => lhs; whnf; arg 1; whnf; arg 2; whnf); try exact rfl); (exact trivial); exact rfl))) | (apply mi; (apply mq .ow tab; exact rfl; (focus ((repeat (apply mh; (focus (conv => lhs; whnf); try exact rfl))); exact nk)); exact rfl; exact rfl; exact rfl; exact rfl; exact rfl; exact rfl)) | (apply ak))) | (apply bq; (first | (apply bg) | (apply ah) | (apply ed))) | (apply bf))
  refine ve (fun x : Int × List Int => [(0, .int .u64 x.1), (3, .str (ofI x.2))]) (fun _ => σ ++ []) (fun x => ∃ k : Nat, x.1 = k ∧ adl k x.2 = aeu v ∧ x.2.length ≤ 66 ∧ k * 2 ^ x.2.length ≤ 2 ^ 65) (fun x => x.1.toNat) ((v : Int).tdiv 128, [IntKind.u8.wrap ((v : Int).tmod 128)]) ⟨v / 128, td v, by rw [w8]; rfl, by simp, by simp; omega⟩ ?_ rfl ?_
  · (repeat' (first | exact trivial | exact Wk.same _ | refine ⟨?_, ?_⟩))
  rintro ⟨z, acc⟩ ⟨k, hz, hk, hl, hp⟩
  dsimp only at hz hl hk hp ⊢
  subst hz
  by_cases h0 : k = 0
  · subst h0
    have c0 : decide ((0 : Int) < (((0 : Nat) : Int))) = false := rfl
    repeat' (first | (apply bn; (first | (apply bv; (apply bu (tt := tt); (focus (conv => lhs; whnf); try exact rfl); exact rfl)) | (apply ai; (apply az (tt := tt); (focus (conv => lhs; whnf); try exact rfl); exact rfl)) | (apply dw; (apply di true tab; (focus (conv => lhs; whnf; arg 1; whnf; arg 2; whnf); try exact rfl); (exact trivial); exact rfl)) | (apply ak))) | (apply bq; (first | (apply bg) | (apply ah) | (apply dm; exact rfl; (exact rfl)) | (apply dn) | (apply oo))) | (apply bf) | (apply o9) | (apply pg))
    (change gu _ _ _ _ _ _ _; apply fu; (exact .inr rfl); (focus (repeat' (first | (apply lc; (focus (conv => lhs; whnf); try exact rfl); (exact Wk.same _)) | exact iq))); exact rfl; (exact rfl); exact Nat.le_refl _; (focus (repeat' (first | exact trivial | refine ⟨?_, ?_⟩))); exact hso)
    rw [adu] at hk
    exact ⟨by rw [o5, ← hk]; rfl, rfl⟩
  · have c0 : decide ((0 : Int) < (k : Int)) = true := decide_eq_true (by omega)
    have h1 : (ofI [IntKind.u8.wrap (IntKind.u8.wrap ((k : Int).tmod 128) + 128)]).size = 1 := aed _
    have h2 : (ofI acc).size ≤ 66 := by rw [aed]; exact hl
    obtain ⟨p1, p2, p3⟩ := as9 h0 hp
    repeat' (first | (apply bn; (first | (apply bv; (apply bu (tt := tt); (focus (conv => lhs; whnf); try exact rfl); exact rfl)) | (apply ai; (apply az (tt := tt); (focus (conv => lhs; whnf); try exact rfl); exact rfl)) | (apply dw; (first | (apply di true tab; (focus (conv => lhs; whnf; arg 1; whnf; arg 2; whnf); try exact rfl); (first | exact trivial | omega | (simp [InR] at *; omega)); exact rfl) | (apply di false tab; (focus (conv => lhs; whnf; arg 1; whnf; arg 2; whnf); try exact rfl); (exact trivial); exact rfl))) | (apply tq; (first | (apply aa; (apply fe tab; exact rfl; exact rfl; exact rfl; exact rfl; (focus (conv => lhs; whnf); try exact rfl); (exact ic); exact rfl); (intro c h; cases h); exact rfl) | (apply pz false tab; (focus (conv => lhs; whnf; arg 1; whnf; arg 2; whnf); try exact rfl); (exact trivial); exact rfl))) | (apply mi; (apply mq .ow tab; exact rfl; (focus ((repeat (apply mh; (focus (conv => lhs; whnf); try exact rfl))); exact nk)); exact rfl; exact rfl; exact rfl; exact rfl; exact rfl; exact rfl)) | (apply ak))) | (apply bq; (first | (apply bg) | (apply ah) | (apply df; exact rfl; (assumption)) | (apply gz) | (apply ed))) | (apply bf) | (apply ng))
    refine ⟨((k : Int).tdiv 128, IntKind.u8.wrap (IntKind.u8.wrap ((k : Int).tmod 128) + 128) :: acc), ⟨k / 128, td k, ?_, p2, p3⟩, ?_, ?_, rfl⟩
    · rw [afq h0] at hk
      rw [← hk, w8]
      congr 2
      have := Nat.mod_lt k (show 0 < 128 by omega)
      simp [IntKind.wrap, IntKind.bits, IntKind.signed]; omega
    · rw [td]; simp; exact Nat.div_lt_self (Nat.pos_of_ne_zero h0) (by decide)
    · (repeat' (first | exact trivial | exact Wk.same _ | refine ⟨?_, ?_⟩))
theorem arh (k : Nat) : ((k : Int).fdiv (2 ^ min (Int.toNat 7) IntKind.u64.bits)) = ((k / 128 : Nat) : Int) := by
  rw [show (2 ^ min (Int.toNat 7) IntKind.u64.bits : Int) = 128 from rfl, Int.fdiv_eq_ediv_of_nonneg _ (by decide)]; omega
theorem avv (k : Nat) : IntKind.u8.wrap (IntKind.u64.wrap ((BitVec.ofInt IntKind.u64.bits (k : Int) &&& BitVec.ofInt IntKind.u64.bits 127).toNat : Int)) = ((k % 128 : Nat) : Int) := by
  have h : (BitVec.ofInt IntKind.u64.bits (k : Int) &&& BitVec.ofInt IntKind.u64.bits 127).toNat = k % 128 := by
    have e1 : (BitVec.ofInt IntKind.u64.bits (k : Int)).toNat = k % 2 ^ 64 := by
      show (BitVec.ofInt 64 (k : Int)).toNat = _
      rw [BitVec.toNat_ofInt]; omega
    have e2 : (BitVec.ofInt IntKind.u64.bits 127).toNat = 2 ^ 7 - 1 := rfl
    rw [BitVec.toNat_and, e1, e2, Nat.and_two_pow_sub_one_eq_mod]; omega
  rw [h]
  simp [IntKind.wrap, IntKind.bits, IntKind.signed]; omega
theorem axh {m : Nat} (h : m < 128) : IntKind.u8.wrap ((BitVec.ofInt IntKind.u8.bits (m : Int) ||| BitVec.ofInt IntKind.u8.bits 128).toNat : Int) = (m : Int) + 128 := by
  have : ∀ m : Fin 128, IntKind.u8.wrap ((BitVec.ofInt IntKind.u8.bits ((m.1 : Nat) : Int) ||| BitVec.ofInt IntKind.u8.bits 128).toNat : Int) = ((m.1 : Nat) : Int) + 128 := by decide +kernel
  exact this ⟨m, h⟩
theorem as0 {α : Type} {l : List α} {a : Nat} {x : α} (h : a < l.length) : (l.set a x).drop a = x :: l.drop (a + 1) := by
  rw [List.drop_eq_getElem_cons (by rw [List.length_set]; exact h), List.getElem_set_self, List.drop_set_of_lt (by omega)]
section
variable {P : Program} {n m : Nat} {env : Env} {σ : Sto} {tt : TT} {ty : TypeId} {pos : String} {after : Array Edge} {dd : Option Nat} {g : Option (Nat × Bool)}
end
def aw5 (v : Nat) (x : Int × Int × List Int) : Prop := ∃ k a : Nat, x.1 = k ∧ x.2.1 = a ∧ a ≤ 9 ∧ k < 128 ^ (a + 1) ∧ x.2.2.length = 10 ∧ adl (k / 128) (x.2.2.drop a) = aeu v
theorem aw5.next {v k a : Nat} {ys : List Int} (ha : a ≤ 9) (hk : k < 128 ^ (a + 1)) (hl : ys.length = 10) (hn : adl (k / 128) (ys.drop a) = aeu v) (h0 : k / 128 ≠ 0) :
    1 ≤ a ∧ aw5 v (((k : Int).fdiv (2 ^ min (Int.toNat 7) IntKind.u64.bits)), (a : Int) - 1, ys.set (0 + ((a : Int) - 1).toNat) (IntKind.u8.wrap ((BitVec.ofInt IntKind.u8.bits (IntKind.u8.wrap (IntKind.u64.wrap ((BitVec.ofInt IntKind.u64.bits ((k : Int).fdiv (2 ^ min (Int.toNat 7) IntKind.u64.bits)) &&& BitVec.ofInt IntKind.u64.bits 127).toNat : Int))) ||| BitVec.ofInt IntKind.u8.bits 128).toNat : Int))) := by
  have h1 : 1 ≤ a := by
    rcases Nat.eq_zero_or_pos a with rfl | h
    · exact absurd (Nat.div_eq_of_lt (by simpa using hk)) h0
    · exact h
  refine ⟨h1, k / 128, a - 1, arh k, (by show ((a : Int) - 1) = ((a - 1 : Nat) : Int); omega), by omega, ?_, by simpa using hl, ?_⟩
  · rw [show a - 1 + 1 = a by omega]
    rw [Nat.pow_succ] at hk
    exact Nat.div_lt_of_lt_mul (by rw [Nat.mul_comm]; exact hk)
  · rw [arh, avv, axh (Nat.mod_lt _ (by decide)), show 0 + ((a : Int) - 1).toNat = a - 1 by omega]
    dsimp only
    rw [as0 (by omega), show a - 1 + 1 = a by omega, ← hn, ← afq h0]
end Go.Proofs.Ytbpjaiemlkcccaa.Pv
end
section
/- Texts as bytes; numbers and texts taken off bytes. -/
namespace Go.Proofs.Ytbpjaiemlkcccaa.Pv
open Go
set_option maxRecDepth 100000
theorem ane : ∀ (n v : Nat) (acc : List Int), v < 128 ^ n → (adl v acc).length ≤ acc.length + n
  | 0, v, acc, h => by
    have : v = 0 := by simpa using h
    subst this; rw [adu]; omega
  | n + 1, v, acc, h => by
    by_cases h0 : v = 0
    · subst h0; rw [adu]; omega
    · rw [afq h0]
      have := ane n (v / 128) (((v % 128 : Nat) + 128 : Int) :: acc) (by rw [Nat.pow_succ] at h; exact Nat.div_lt_of_lt_mul (by rw [Nat.mul_comm]; exact h))
      rw [List.length_cons] at this; omega
theorem xc {v : Nat} (h : v < 18446744073709551616) : (o5 v).size ≤ 10 := by
  rw [o5, aed]
  have := ane 9 (v / 128) [((v % 128 : Nat) : Int)] (by omega)
  simpa [aeu] using this
theorem amh : ∀ (n v : Nat) (acc : List Int), v < 128 ^ n → acc.length ≤ (adl v acc).length
  | 0, v, acc, h => by
    have : v = 0 := by simpa using h
    subst this; rw [adu]; omega
  | n + 1, v, acc, h => by
    by_cases h0 : v = 0
    · subst h0; rw [adu]; omega
    · rw [afq h0]
      have := amh n (v / 128) (((v % 128 : Nat) + 128 : Int) :: acc) (by rw [Nat.pow_succ] at h; exact Nat.div_lt_of_lt_mul (by rw [Nat.mul_comm]; exact h))
      rw [List.length_cons] at this; omega
theorem atv {v : Nat} (h : v < 18446744073709551616) : 1 ≤ (o5 v).size := by
  rw [o5, aed]
  have := amh 9 (v / 128) [((v % 128 : Nat) : Int)] (by omega)
  simpa [aeu] using this
def zo (t : ByteArray) : ByteArray := o5 t.size ++ t
theorem an6 (t : ByteArray) (h : t.size ≤ 9223372036854775797) (σ : Sto) : jo Try.prog 38 [.str t] σ fun r σ' => r = .str (zo t) ∧ σ' = σ := by
  refine ny tab Try.func38 rfl (nlb rfl) (by decide) fun hso => oh ?_
  have hn := aj2 t.size (by omega)
  have hs := xc (v := t.size) (by omega)
  repeat' (first | (apply bn; (first | (apply bv; (apply bu (tt := tt); (focus (conv => lhs; whnf); try exact rfl); exact rfl)) | (apply ai; (apply az (tt := tt); (focus (conv => lhs; whnf); try exact rfl); exact rfl)) | (apply ji; (refine cz (tt := tt) apw (hn _) rfl rfl rfl rfl rfl ?_)) | (apply dw; (apply di true tab; (focus (conv => lhs; whnf; arg 1; whnf; arg 2; whnf); try exact rfl); (omega); exact rfl)) | (apply jr; (apply ni tab; (focus (conv => lhs; whnf; arg 1; whnf; arg 2; whnf); try exact rfl); (exact trivial); exact rfl)) | (apply tq; (apply pz true tab; (focus (conv => lhs; whnf; arg 1; whnf; arg 2; whnf); try exact rfl); (simp only [InR]; omega); exact rfl)) | (apply ak))) | (apply bq; (first | (apply bg) | (apply ah) | (apply dn))) | (apply bf))
  (change gu _ _ _ _ _ _ _; apply fu; (exact .inr rfl); (focus (repeat' (first | (apply lc; (focus (conv => lhs; whnf); try exact rfl); (exact Wk.same _)) | exact iq))); exact rfl; (exact rfl); exact Nat.le_refl _; (focus (repeat' (first | exact trivial | refine ⟨?_, ?_⟩))); exact hso)
  exact ⟨rfl, rfl⟩
def tkN : List Int → Nat → Nat × List Int × Int
  | [], v => (0, [], 2)
  | b :: r, v => if 2 ^ 57 ≤ v then (0, [], 3) else if b < 128 then (v * 128 + b.toNat % 128, r, 0) else tkN r (v * 128 + b.toNat % 128)
def ada (l : List Int) : Nat × List Int × Int := if l = [] then (0, [], 2) else if l.getD 0 0 = 128 then (0, [], 3) else tkN l 0
def takeN (s : ByteArray) : Nat × ByteArray × Int := ((ada (bi s)).1, ofI (ada (bi s)).2.1, (ada (bi s)).2.2)
theorem arv {l : List Int} {i : Nat} (h : i < l.length) : l.drop i = l.getD i 0 :: l.drop (i + 1) := by
  rw [List.drop_eq_getElem_cons h, List.getD_eq_getElem?_getD, List.getElem?_eq_getElem h]; rfl
theorem at1 (s : ByteArray) {i : Nat} (h : i < s.size) : ofI ((bi s).drop (i + 1)) = s.extract ((i : Int) + 1).toNat ((s.size : Int)).toNat := by
  apply ac5
  rw [ab4, aqv (fun x hx => arw (List.mem_of_mem_drop hx)), show ((s.size : Int)).toNat = s.size by omega, show ((i : Int) + 1).toNat = i + 1 by omega, List.take_of_length_le (by rw [ac3]; exact Nat.le_refl _)]
theorem akw {k : Nat} {b : Int} (hk : k < 2 ^ 57) (hb : 0 ≤ b ∧ b ≤ 255) :
    IntKind.u64.wrap ((BitVec.ofInt IntKind.u64.bits (IntKind.u64.wrap ((k : Int) * 2 ^ min (Int.toNat 7) IntKind.u64.bits)) ||| BitVec.ofInt IntKind.u64.bits (IntKind.u64.wrap (IntKind.u8.wrap ((BitVec.ofInt IntKind.u8.bits b &&& BitVec.ofInt IntKind.u8.bits 127).toNat : Int)))).toNat : Int) = ((k * 128 + b.toNat % 128 : Nat) : Int) := by
  have h1 : IntKind.u8.wrap ((BitVec.ofInt IntKind.u8.bits b &&& BitVec.ofInt IntKind.u8.bits 127).toNat : Int) = ((b.toNat % 128 : Nat) : Int) := by
    have : ∀ m : Fin 256, IntKind.u8.wrap ((BitVec.ofInt IntKind.u8.bits ((m.1 : Nat) : Int) &&& BitVec.ofInt IntKind.u8.bits 127).toNat : Int) = ((m.1 % 128 : Nat) : Int) := by decide +kernel
    have := this ⟨b.toNat, by omega⟩
    rw [show ((b.toNat : Nat) : Int) = b by omega] at this
    exact this
  rw [h1]
  have h2 : IntKind.u64.wrap ((b.toNat % 128 : Nat) : Int) = ((b.toNat % 128 : Nat) : Int) := by
    simp [IntKind.wrap, IntKind.bits, IntKind.signed]; omega
  rw [h2]
  have hm : b.toNat % 128 < 2 ^ 7 := Nat.mod_lt _ (by decide)
  generalize b.toNat % 128 = m at *
  have e0 : IntKind.u64.wrap ((k : Int) * 2 ^ min (Int.toNat 7) IntKind.u64.bits) = (k : Int) * 128 := by
    rw [show (2 ^ min (Int.toNat 7) IntKind.u64.bits : Int) = 128 from rfl]
    simp [IntKind.wrap, IntKind.bits, IntKind.signed]; omega
  have e1 : (BitVec.ofInt IntKind.u64.bits (IntKind.u64.wrap ((k : Int) * 2 ^ min (Int.toNat 7) IntKind.u64.bits))).toNat = 2 ^ 7 * k := by
    rw [e0]
    show (BitVec.ofInt 64 ((k : Int) * 128)).toNat = _
    rw [BitVec.toNat_ofInt]; omega
  have e2 : (BitVec.ofInt IntKind.u64.bits (m : Int)).toNat = m := by
    show (BitVec.ofInt 64 (m : Int)).toNat = _
    rw [BitVec.toNat_ofInt]; omega
  rw [BitVec.toNat_or, e1, e2, ← Nat.two_pow_add_eq_or_of_lt hm]
  simp [IntKind.wrap, IntKind.bits, IntKind.signed]; omega
theorem aim (s : ByteArray) (hs : s.size ≤ 9223372036854775807) (σ : Sto) : jo Try.prog 54 [.str s] σ fun r σ' => r = .tup [.int .u64 (takeN s).1, .str (takeN s).2.1, .int .i64 (takeN s).2.2] ∧ σ' = σ := by
  refine ny tab Try.func54 rfl (nlb rfl) (by decide) fun hso => oh ?_
  have hbl := ac3 s
  by_cases h0 : bi s = []
  · have h0' : s = ⟨#[]⟩ := ac5 h0
    have c0 : wm s ⟨#[]⟩ = true := aa8.2 h0'
    have e : takeN s = (0, ⟨#[]⟩, 2) := by simp [takeN, ada, h0, ofI]
    rw [e]
    repeat' (first | (apply bn; (first | (apply bv; (apply bu (tt := tt); (focus (conv => lhs; whnf); try exact rfl); exact rfl)) | (apply ai; (apply az (tt := tt); (focus (conv => lhs; whnf); try exact rfl); exact rfl)) | (apply dw; (apply di true tab; (focus (conv => lhs; whnf; arg 1; whnf; arg 2; whnf); try exact rfl); (exact trivial); exact rfl)) | (apply jr; (apply ni tab; (focus (conv => lhs; whnf; arg 1; whnf; arg 2; whnf); try exact rfl); (exact trivial); exact rfl)) | (apply ak))) | (apply bq; (first | (apply bg) | (apply ah) | (apply df; exact rfl; (assumption)) | (apply dm; exact rfl; (assumption)) | (apply dn) | (apply oo))) | (apply bf) | (apply lq) | (apply o9) | (apply pg))
    (change gu _ _ _ _ _ _ _; apply fu; (exact .inr rfl); (focus (repeat' (first | (apply lc; (focus (conv => lhs; whnf); try exact rfl); (exact Wk.same _)) | exact iq))); exact rfl; (exact rfl); exact Nat.le_refl _; (focus (repeat' (first | exact trivial | refine ⟨?_, ?_⟩))); exact hso)
    exact ⟨rfl, rfl⟩
  have h0' : 0 < s.size := by rw [← hbl]; exact List.length_pos_iff.2 h0
  have c0 : wm s ⟨#[]⟩ = false := by
    cases hb : wm s ⟨#[]⟩ with
    | false => rfl
    | true => exact absurd (by rw [aa8.1 hb]; rfl) h0
  by_cases h1 : (bi s).getD 0 0 = 128
  · have c1 : (bt s 0 == 128) = true := by rw [apz]; exact beq_iff_eq.2 h1
    have e : takeN s = (0, ⟨#[]⟩, 3) := by simp only [takeN, ada, if_neg h0, if_pos h1]; rfl
    rw [e]
    repeat' (first | (apply bn; (first | (apply bv; (apply bu (tt := tt); (focus (conv => lhs; whnf); try exact rfl); exact rfl)) | (apply ai; (apply az (tt := tt); (focus (conv => lhs; whnf); try exact rfl); exact rfl)) | (apply dw; (apply di true tab; (focus (conv => lhs; whnf; arg 1; whnf; arg 2; whnf); try exact rfl); (exact trivial); exact rfl)) | (apply ul; (apply uk tab (tI := 3); (focus (conv => lhs; whnf; arg 1; whnf; arg 2; whnf); try exact rfl); (omega); exact rfl)) | (apply ak))) | (apply bq; (first | (apply bg) | (apply ah) | (apply df; exact rfl; (assumption)) | (apply dm; exact rfl; (assumption)) | (apply gz) | (apply dn))) | (apply bf) | (apply lq))
    (change gu _ _ _ _ _ _ _; apply fu; (exact .inr rfl); (focus (repeat' (first | (apply lc; (focus (conv => lhs; whnf); try exact rfl); (exact Wk.same _)) | exact iq))); exact rfl; (exact rfl); exact Nat.le_refl _; (focus (repeat' (first | exact trivial | refine ⟨?_, ?_⟩))); exact hso)
    exact ⟨rfl, rfl⟩
  have c1 : (bt s 0 == 128) = false := by rw [apz]; simpa using h1
  have e : takeN s = ((tkN (bi s) 0).1, ofI (tkN (bi s) 0).2.1, (tkN (bi s) 0).2.2) := by simp only [takeN, ada, if_neg h0, if_neg h1]
  rw [e]
  repeat' (first | (apply bn; (first | (apply bv; (apply bu (tt := tt); (focus (conv => lhs; whnf); try exact rfl); exact rfl)) | (apply ai; (apply az (tt := tt); (focus (conv => lhs; whnf); try exact rfl); exact rfl)) | (apply dw; (apply di true tab; (focus (conv => lhs; whnf; arg 1; whnf; arg 2; whnf); try exact rfl); (exact trivial); exact rfl)) | (apply jr; (apply ni tab; (focus (conv => lhs; whnf; arg 1; whnf; arg 2; whnf); try exact rfl); (exact trivial); exact rfl)) | (apply ul; (apply uk tab (tI := 3); (focus (conv => lhs; whnf; arg 1; whnf; arg 2; whnf); try exact rfl); (omega); exact rfl)) | (apply ak))) | (apply bq; (first | (apply bg) | (apply ah) | (apply df; exact rfl; (assumption)) | (apply dm; exact rfl; (assumption)) | (apply gz) | (apply dn) | (apply ed))) | (apply bf) | (apply lq))
  refine ve (fun x : Nat × Int => [(0, .str s), (5, .int .u64 x.2), (13, .int .i64 s.size), (14, .int .i64 x.1)]) (fun _ => σ ++ []) (fun x => x.1 ≤ s.size ∧ ∃ k : Nat, x.2 = k ∧ tkN ((bi s).drop x.1) k = tkN (bi s) 0) (fun x => s.size - x.1) (0, 0) ⟨Nat.zero_le _, 0, rfl, rfl⟩ ?_ rfl ?_
  · (repeat' (first | exact trivial | exact Wk.same _ | refine ⟨?_, ?_⟩))
  rintro ⟨i, z⟩ ⟨hi, k, hz, hk⟩
  dsimp only at hi hz hk ⊢
  subst hz
  rcases Nat.lt_or_ge i s.size with hlt | hge
  · have d1 : decide ((i : Int) < (s.size : Int)) = true := decide_eq_true (by omega)
    rw [arv (by omega), tkN] at hk
    have sh : ((k : Int).fdiv (2 ^ min (Int.toNat 57) IntKind.u64.bits)) = ((k / 2 ^ 57 : Nat) : Int) := by
      rw [show (2 ^ min (Int.toNat 57) IntKind.u64.bits : Int) = 2 ^ 57 from rfl, Int.fdiv_eq_ediv_of_nonneg _ (by decide)]; omega
    by_cases hb : 2 ^ 57 ≤ k
    · have d2 : decide ((0 : Int) < (k : Int).fdiv (2 ^ min (Int.toNat 57) IntKind.u64.bits)) = true := by rw [sh]; exact decide_eq_true (by omega)
      rw [if_pos hb] at hk
      rw [← hk]
      repeat' (first | (apply bn; (first | (apply bv; (apply bu (tt := tt); (focus (conv => lhs; whnf); try exact rfl); exact rfl)) | (apply ai; (apply az (tt := tt); (focus (conv => lhs; whnf); try exact rfl); exact rfl)) | (apply dw; (apply di true tab; (focus (conv => lhs; whnf; arg 1; whnf; arg 2; whnf); try exact rfl); (first | exact trivial | omega); exact rfl)) | (apply jr; (apply ni tab; (focus (conv => lhs; whnf; arg 1; whnf; arg 2; whnf); try exact rfl); (exact trivial); exact rfl)) | (apply ul; (apply uk tab (tI := 3); (focus (conv => lhs; whnf; arg 1; whnf; arg 2; whnf); try exact rfl); (omega); exact rfl)) | (apply ak))) | (apply bq; (first | (apply bg) | (apply ah) | (apply df; exact rfl; (assumption)) | (apply dm; exact rfl; (assumption)) | (apply gz) | (apply dn) | (apply ed))) | (apply bf) | (apply lq) | (apply om))
      (change gu _ _ _ _ _ _ _; apply fu; (exact .inr rfl); (focus (repeat' (first | (apply lc; (focus (conv => lhs; whnf); try exact rfl); (exact Wk.same _)) | exact iq))); exact rfl; (exact rfl); exact Nat.le_refl _; (focus (repeat' (first | exact trivial | refine ⟨?_, ?_⟩))); exact hso)
      exact ⟨rfl, rfl⟩
    have d2 : decide ((0 : Int) < (k : Int).fdiv (2 ^ min (Int.toNat 57) IntKind.u64.bits)) = false := by rw [sh]; exact decide_eq_false (by omega)
    rw [if_neg hb] at hk
    have hx := arw (s := s) (x := (bi s).getD i 0) (by rw [List.getD_eq_getElem?_getD, List.getElem?_eq_getElem (by omega)]; exact List.getElem_mem _)
    have eb : bt s (i : Int) = (bi s).getD i 0 := by rw [apz, Int.toNat_natCast]
    by_cases hc : (bi s).getD i 0 < 128
    · have d3 : decide (bt s (i : Int) < 128) = true := decide_eq_true (by rw [eb]; exact hc)
      rw [if_pos hc] at hk
      rw [← hk]
      repeat' (first | (apply bn; (first | (apply bv; (apply bu (tt := tt); (focus (conv => lhs; whnf); try exact rfl); exact rfl)) | (apply ai; (apply az (tt := tt); (focus (conv => lhs; whnf); try exact rfl); exact rfl)) | (apply dw; (first | (apply di true tab; (focus (conv => lhs; whnf; arg 1; whnf; arg 2; whnf); try exact rfl); (first | exact trivial | omega); exact rfl) | (apply di false tab; (focus (conv => lhs; whnf; arg 1; whnf; arg 2; whnf); try exact rfl); (omega); exact rfl))) | (apply tq; (apply pz false tab; (focus (conv => lhs; whnf; arg 1; whnf; arg 2; whnf); try exact rfl); (exact trivial); exact rfl)) | (apply ul; (apply uk tab (tI := 3); (focus (conv => lhs; whnf; arg 1; whnf; arg 2; whnf); try exact rfl); (omega); exact rfl)) | (apply ak))) | (apply bq; (first | (apply bg) | (apply ah) | (apply df; exact rfl; (assumption)) | (apply dm; exact rfl; (assumption)) | (apply gz) | (apply dn) | (apply ed) | (apply ko (k := 6); exact mixed; decide +kernel; decide +kernel))) | (apply bf) | (apply lq) | (apply om) | (apply p9; (first | (apply p8; (first | (apply jg; (apply jf (tt := tt); (focus (conv => lhs; whnf); try exact rfl))) | (apply jl; (apply jm (tt := tt); (focus (conv => lhs; whnf); try exact rfl))) | (apply kv; (apply ek true tab; (focus (conv => lhs; whnf; arg 1; whnf; arg 2; whnf); try exact rfl); (simp only [InR]; omega))) | (apply jw; (apply jh tab; (focus (conv => lhs; whnf; arg 1; whnf; arg 2; whnf); try exact rfl); (omega)))); exact rfl; exact rfl) | (apply oz))))
      (change gu _ _ _ _ _ _ _; apply fu; (exact .inr rfl); (focus (repeat' (first | (apply lc; (focus (conv => lhs; whnf); try exact rfl); (exact Wk.same _)) | exact iq))); exact rfl; (exact rfl); exact Nat.le_refl _; (focus (repeat' (first | exact trivial | refine ⟨?_, ?_⟩))); exact hso)
      refine ⟨?_, rfl⟩
      rw [← eb, at1 s hlt]
      show PV.tup [.int .u64 _, _, _] = _
      rw [akw (by omega) (by rw [eb]; exact hx)]
    · have d3 : decide (bt s (i : Int) < 128) = false := decide_eq_false (by rw [eb]; exact hc)
      rw [if_neg hc] at hk
      repeat' (first | (apply bn; (first | (apply bv; (apply bu (tt := tt); (focus (conv => lhs; whnf); try exact rfl); exact rfl)) | (apply ai; (apply az (tt := tt); (focus (conv => lhs; whnf); try exact rfl); exact rfl)) | (apply dw; (first | (apply di true tab; (focus (conv => lhs; whnf; arg 1; whnf; arg 2; whnf); try exact rfl); (first | exact trivial | omega | (simp only [InR]; omega)); exact rfl) | (apply di false tab; (focus (conv => lhs; whnf; arg 1; whnf; arg 2; whnf); try exact rfl); (omega); exact rfl))) | (apply tq; (apply pz false tab; (focus (conv => lhs; whnf; arg 1; whnf; arg 2; whnf); try exact rfl); (exact trivial); exact rfl)) | (apply ul; (apply uk tab (tI := 3); (focus (conv => lhs; whnf; arg 1; whnf; arg 2; whnf); try exact rfl); (omega); exact rfl)) | (apply ak))) | (apply bq; (first | (apply bg) | (apply ah) | (apply df; exact rfl; (assumption)) | (apply dm; exact rfl; (assumption)) | (apply gz) | (apply dn) | (apply ed) | (apply ko (k := 6); exact mixed; decide +kernel; decide +kernel))) | (apply bf) | (apply lq) | (apply ng) | (apply om) | (apply p9; (first | (apply p8; (first | (apply jg; (apply jf (tt := tt); (focus (conv => lhs; whnf); try exact rfl))) | (apply jl; (apply jm (tt := tt); (focus (conv => lhs; whnf); try exact rfl))) | (apply kv; (apply ek true tab; (focus (conv => lhs; whnf; arg 1; whnf; arg 2; whnf); try exact rfl); (simp only [InR]; omega))) | (apply jw; (apply jh tab; (focus (conv => lhs; whnf; arg 1; whnf; arg 2; whnf); try exact rfl); (omega)))); exact rfl; exact rfl) | (apply oz))))
      refine ⟨(i + 1, IntKind.u64.wrap ((BitVec.ofInt IntKind.u64.bits (IntKind.u64.wrap ((k : Int) * 2 ^ min (Int.toNat 7) IntKind.u64.bits)) ||| BitVec.ofInt IntKind.u64.bits (IntKind.u64.wrap (IntKind.u8.wrap ((BitVec.ofInt IntKind.u8.bits (bt s (i : Int)) &&& BitVec.ofInt IntKind.u8.bits 127).toNat : Int)))).toNat : Int)), ⟨by show i + 1 ≤ _; omega, k * 128 + ((bi s).getD i 0).toNat % 128, by rw [← eb]; exact akw (by omega) (by rw [eb]; exact hx), hk⟩, by show s.size - (i + 1) < _; omega, ?_, rfl⟩
      (repeat' (first | exact trivial | exact Wk.same _ | refine ⟨?_, ?_⟩))
  · have d1 : decide ((i : Int) < (s.size : Int)) = false := decide_eq_false (by omega)
    rw [List.drop_eq_nil_of_le (by omega), tkN] at hk
    rw [← hk]
    repeat' (first | (apply bn; (first | (apply bv; (apply bu (tt := tt); (focus (conv => lhs; whnf); try exact rfl); exact rfl)) | (apply ai; (apply az (tt := tt); (focus (conv => lhs; whnf); try exact rfl); exact rfl)) | (apply dw; (first | (apply di true tab; (focus (conv => lhs; whnf; arg 1; whnf; arg 2; whnf); try exact rfl); (first | exact trivial | omega | (simp only [InR]; omega)); exact rfl) | (apply di false tab; (focus (conv => lhs; whnf; arg 1; whnf; arg 2; whnf); try exact rfl); (omega); exact rfl))) | (apply tq; (apply pz false tab; (focus (conv => lhs; whnf; arg 1; whnf; arg 2; whnf); try exact rfl); (exact trivial); exact rfl)) | (apply ul; (apply uk tab (tI := 3); (focus (conv => lhs; whnf; arg 1; whnf; arg 2; whnf); try exact rfl); (omega); exact rfl)) | (apply ak))) | (apply bq; (first | (apply bg) | (apply ah) | (apply df; exact rfl; (assumption)) | (apply dm; exact rfl; (assumption)) | (apply gz) | (apply dn) | (apply ed) | (apply oo))) | (apply bf) | (apply ng) | (apply o9) | (apply pg))
    (change gu _ _ _ _ _ _ _; apply fu; (exact .inr rfl); (focus (repeat' (first | (apply lc; (focus (conv => lhs; whnf); try exact rfl); (exact Wk.same _)) | exact iq))); exact rfl; (exact rfl); exact Nat.le_refl _; (focus (repeat' (first | exact trivial | refine ⟨?_, ?_⟩))); exact hso)
    exact ⟨rfl, rfl⟩
theorem ak3 : ∀ (l : List Int) (v : Nat), (tkN l v).1 < 18446744073709551616 ∧ (tkN l v).2.1.length ≤ l.length
  | [], v => ⟨by simp [tkN], by simp [tkN]⟩
  | b :: r, v => by
    rw [tkN]
    split
    · exact ⟨by simp, by simp⟩
    split
    · refine ⟨?_, by simp⟩
      show v * 128 + b.toNat % 128 < _
      omega
    · obtain ⟨h1, h2⟩ := ak3 r (v * 128 + b.toNat % 128)
      exact ⟨h1, by simp; omega⟩
theorem aej (s : ByteArray) : (takeN s).1 < 18446744073709551616 ∧ (takeN s).2.1.size ≤ s.size := by
  have h := ak3 (bi s) 0
  rw [ac3] at h
  unfold takeN ada
  dsimp only
  rw [aed]
  split
  · exact ⟨by simp, by simp⟩
  split
  · exact ⟨by simp, by simp⟩
  · exact h
def aci (s : ByteArray) (most : Nat) : ByteArray × ByteArray × Int :=
  if (takeN s).2.2 ≠ 0 then (⟨#[]⟩, ⟨#[]⟩, (takeN s).2.2) else if most < (takeN s).1 then (⟨#[]⟩, ⟨#[]⟩, 4) else if (takeN s).2.1.size < (takeN s).1 then (⟨#[]⟩, ⟨#[]⟩, 2)
  else ((takeN s).2.1.extract 0 (takeN s).1, (takeN s).2.1.extract (takeN s).1 (takeN s).2.1.size, 0)
def agm (q : ByteArray × ByteArray × Int) : PV := .tup [.str q.1, .str q.2.1, .int .i64 q.2.2]
set_option maxHeartbeats 1000000 in
theorem anl (s : ByteArray) (most : Nat) (hs : s.size ≤ 9223372036854775807) (hm : most ≤ 1048576) (σ : Sto) : jo Try.prog 42 [.str s, .int .i64 most] σ fun r σ' => r = agm (aci s most) ∧ σ' = σ := by
  refine ny tab Try.func42 rfl (nlb rfl) (by decide) fun hso => oh ?_
  have hq := aim s hs
  obtain ⟨b1, b2⟩ := aej s
  unfold aci
  generalize takeN s = q at *
  obtain ⟨n, t, e⟩ := q
  dsimp only at *
  have m0 : decide ((most : Int) < 0) = false := decide_eq_false (by omega)
  by_cases h1 : e ≠ 0
  · have c1 : (e != 0) = true := by simpa using h1
    rw [if_pos h1]
    repeat' (first | (apply bn; (first | (apply jq; (apply jc; exact (rfl : _ = some _); exact (rfl : _ = PV.bool _); (exact rfl))) | (apply bv; (apply bu (tt := tt); (focus (conv => lhs; whnf); try exact rfl); exact rfl)) | (apply ai; (apply az (tt := tt); (focus (conv => lhs; whnf); try exact rfl); exact rfl)) | (apply ji; (refine cz (tt := tt) ags (hq _) rfl rfl rfl rfl rfl ?_)) | (apply dw; (apply di true tab; (focus (conv => lhs; whnf; arg 1; whnf; arg 2; whnf); try exact rfl); (exact trivial); exact rfl)) | (apply kr; (apply ku (tt := tt); exact (rfl : _ = PV.bool _); (refine .inr ⟨rfl, ?_⟩); (focus (conv => lhs; whnf); try exact rfl); exact ltn rfl)) | (apply jr; (apply ni tab; (focus (conv => lhs; whnf; arg 1; whnf; arg 2; whnf); try exact rfl); (exact trivial); exact rfl)) | (apply tq; (apply pz true tab; (focus (conv => lhs; whnf; arg 1; whnf; arg 2; whnf); try exact rfl); (simp only [InR]; omega); exact rfl)) | (apply iw; (apply iy (tt := tt); (focus (conv => lhs; whnf; arg 1; whnf; arg 2; whnf); try exact rfl); (exact trivial); exact rfl)) | (apply ak))) | (apply bq; (first | (apply bg) | (apply ah) | (apply df; exact rfl; (assumption)) | (apply dm; exact rfl; (assumption)) | (apply gz) | (apply dn) | (apply ed) | (apply ko (k := 7); exact mixed; decide +kernel; decide +kernel))) | (apply bf) | (apply lq) | (apply om) | (apply p9; (first | (apply p8; (first | (apply jg; (apply jf (tt := tt); (focus (conv => lhs; whnf); try exact rfl))) | (apply jl; (apply jm (tt := tt); (focus (conv => lhs; whnf); try exact rfl))) | (apply jw; (apply jh tab; (focus (conv => lhs; whnf; arg 1; whnf; arg 2; whnf); try exact rfl); (omega)))); exact rfl; exact rfl) | (apply oz))))
    (change gu _ _ _ _ _ _ _; apply fu; (exact .inr rfl); (focus (repeat' (first | (apply lc; (focus (conv => lhs; whnf); try exact rfl); (exact Wk.same _)) | exact iq))); exact rfl; (exact rfl); exact Nat.le_refl _; (focus (repeat' (first | exact trivial | refine ⟨?_, ?_⟩))); exact hso)
    exact ⟨rfl, rfl⟩
  have c1 : (e != 0) = false := by simpa using h1
  rw [if_neg h1]
  by_cases h2 : most < n
  · have c2 : decide ((most : Int) < (n : Int)) = true := decide_eq_true (by omega)
    rw [if_pos h2]
    repeat' (first | (apply bn; (first | (apply jq; (apply jc; exact (rfl : _ = some _); exact (rfl : _ = PV.bool _); (exact rfl))) | (apply bv; (apply bu (tt := tt); (focus (conv => lhs; whnf); try exact rfl); exact rfl)) | (apply ai; (apply az (tt := tt); (focus (conv => lhs; whnf); try exact rfl); exact rfl)) | (apply ji; (refine cz (tt := tt) ags (hq _) rfl rfl rfl rfl rfl ?_)) | (apply dw; (apply di true tab; (focus (conv => lhs; whnf; arg 1; whnf; arg 2; whnf); try exact rfl); (exact trivial); exact rfl)) | (apply kr; (apply ku (tt := tt); exact (rfl : _ = PV.bool _); (refine .inr ⟨rfl, ?_⟩); (focus (conv => lhs; whnf); try exact rfl); exact ltn rfl)) | (apply tq; (apply pz true tab; (focus (conv => lhs; whnf; arg 1; whnf; arg 2; whnf); try exact rfl); (simp only [InR]; omega); exact rfl)) | (apply iw; (apply iy (tt := tt); (focus (conv => lhs; whnf; arg 1; whnf; arg 2; whnf); try exact rfl); (exact trivial); exact rfl)) | (apply ak))) | (apply bq; (first | (apply bg) | (apply ah) | (apply df; exact rfl; (assumption)) | (apply dm; exact rfl; (assumption)) | (apply dn) | (apply ed))) | (apply bf) | (apply lq) | (apply om))
    (change gu _ _ _ _ _ _ _; apply fu; (exact .inr rfl); (focus (repeat' (first | (apply lc; (focus (conv => lhs; whnf); try exact rfl); (exact Wk.same _)) | exact iq))); exact rfl; (exact rfl); exact Nat.le_refl _; (focus (repeat' (first | exact trivial | refine ⟨?_, ?_⟩))); exact hso)
    exact ⟨rfl, rfl⟩
  have c2 : decide ((most : Int) < (n : Int)) = false := decide_eq_false (by omega)
  rw [if_neg h2]
  by_cases h3 : t.size < n
  · have c3 : decide ((t.size : Int) < (n : Int)) = true := decide_eq_true (by omega)
    rw [if_pos h3]
    repeat' (first | (apply bn; (first | (apply jq; (apply jc; exact (rfl : _ = some _); exact (rfl : _ = PV.bool _); (exact rfl))) | (apply bv; (apply bu (tt := tt); (focus (conv => lhs; whnf); try exact rfl); exact rfl)) | (apply ai; (apply az (tt := tt); (focus (conv => lhs; whnf); try exact rfl); exact rfl)) | (apply ji; (refine cz (tt := tt) ags (hq _) rfl rfl rfl rfl rfl ?_)) | (apply dw; (apply di true tab; (focus (conv => lhs; whnf; arg 1; whnf; arg 2; whnf); try exact rfl); (exact trivial); exact rfl)) | (apply kr; (apply ku (tt := tt); exact (rfl : _ = PV.bool _); (refine .inr ⟨rfl, ?_⟩); (focus (conv => lhs; whnf); try exact rfl); exact ltn rfl)) | (apply jr; (apply ni tab; (focus (conv => lhs; whnf; arg 1; whnf; arg 2; whnf); try exact rfl); (exact trivial); exact rfl)) | (apply tq; (apply pz true tab; (focus (conv => lhs; whnf; arg 1; whnf; arg 2; whnf); try exact rfl); (simp only [InR]; omega); exact rfl)) | (apply iw; (apply iy (tt := tt); (focus (conv => lhs; whnf; arg 1; whnf; arg 2; whnf); try exact rfl); (exact trivial); exact rfl)) | (apply ak))) | (apply bq; (first | (apply bg) | (apply ah) | (apply df; exact rfl; (assumption)) | (apply dm; exact rfl; (assumption)) | (apply dn) | (apply ed))) | (apply bf) | (apply lq) | (apply om))
    (change gu _ _ _ _ _ _ _; apply fu; (exact .inr rfl); (focus (repeat' (first | (apply lc; (focus (conv => lhs; whnf); try exact rfl); (exact Wk.same _)) | exact iq))); exact rfl; (exact rfl); exact Nat.le_refl _; (focus (repeat' (first | exact trivial | refine ⟨?_, ?_⟩))); exact hso)
    exact ⟨rfl, rfl⟩
  have c3 : decide ((t.size : Int) < (n : Int)) = false := decide_eq_false (by omega)
  rw [if_neg h3]
  repeat' (first | (apply bn; (first | (apply jq; (apply jc; exact (rfl : _ = some _); exact (rfl : _ = PV.bool _); (exact rfl))) | (apply bv; (apply bu (tt := tt); (focus (conv => lhs; whnf); try exact rfl); exact rfl)) | (apply ai; (apply az (tt := tt); (focus (conv => lhs; whnf); try exact rfl); exact rfl)) | (apply ji; (refine cz (tt := tt) ags (hq _) rfl rfl rfl rfl rfl ?_)) | (apply dw; (apply di true tab; (focus (conv => lhs; whnf; arg 1; whnf; arg 2; whnf); try exact rfl); (exact trivial); exact rfl)) | (apply kr; (apply ku (tt := tt); exact (rfl : _ = PV.bool _); (refine .inr ⟨rfl, ?_⟩); (focus (conv => lhs; whnf); try exact rfl); exact ltn rfl)) | (apply jr; (apply ni tab; (focus (conv => lhs; whnf; arg 1; whnf; arg 2; whnf); try exact rfl); (exact trivial); exact rfl)) | (apply tq; (apply pz true tab; (focus (conv => lhs; whnf; arg 1; whnf; arg 2; whnf); try exact rfl); (simp only [InR]; omega); exact rfl)) | (apply iw; (apply iy (tt := tt); (focus (conv => lhs; whnf; arg 1; whnf; arg 2; whnf); try exact rfl); (exact trivial); exact rfl)) | (apply ak))) | (apply bq; (first | (apply bg) | (apply ah) | (apply df; exact rfl; (assumption)) | (apply dm; exact rfl; (assumption)) | (apply gz) | (apply dn) | (apply ed) | (apply ko (k := 7); exact mixed; decide +kernel; decide +kernel))) | (apply bf) | (apply lq) | (apply ng) | (apply om) | (apply p9; (first | (apply p8; (first | (apply jg; (apply jf (tt := tt); (focus (conv => lhs; whnf); try exact rfl))) | (apply jl; (apply jm (tt := tt); (focus (conv => lhs; whnf); try exact rfl))) | (apply jw; (apply jh tab; (focus (conv => lhs; whnf; arg 1; whnf; arg 2; whnf); try exact rfl); (omega)))); exact rfl; exact rfl) | (apply oz))))
  (change gu _ _ _ _ _ _ _; apply fu; (exact .inr rfl); (focus (repeat' (first | (apply lc; (focus (conv => lhs; whnf); try exact rfl); (exact Wk.same _)) | exact iq))); exact rfl; (exact rfl); exact Nat.le_refl _; (focus (repeat' (first | exact trivial | refine ⟨?_, ?_⟩))); exact hso)
  exact ⟨rfl, rfl⟩
end Go.Proofs.Ytbpjaiemlkcccaa.Pv
end
