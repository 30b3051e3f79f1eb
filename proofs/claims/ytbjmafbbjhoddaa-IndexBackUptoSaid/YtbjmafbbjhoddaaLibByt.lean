/- A command's bytes, by the program and by the document. -/
import Derived.Test.YtbjmafbbjhoddaaLibTake
import Derived.Test.YtbjmafbbjhoddaaLibImpM
import Derived.Test.YtbjmafbbjhoddaaLibVlq
import Derived.Test.YtbjmafbbjhoddaaPvZx
namespace Go.Proofs.Ytbjmafbbjhoddaa.Pv
open Go
set_option linter.unusedVariables false
set_option linter.unusedSimpArgs false
set_option maxRecDepth 100000

theorem numZ_sat (z : Int) (h0 : 0 ≤ z) (h1 : z < 18446744073709551616) (σ : Sto) : SatCall Try.prog 51 [.int .u64 z] σ fun r σ' => r = .str (numB z.toNat) ∧ σ' = σ := by
  have h := num_sat z.toNat (by omega) σ
  rw [show ((z.toNat : Nat) : Int) = z by omega] at h; exact h
theorem size_app (a b : ByteArray) : (a ++ b).size = a.size + b.size := ByteArray.size_append
theorem app_assocB (a b c : ByteArray) : a ++ b ++ c = a ++ (b ++ c) := ByteArray.append_assoc

section
variable {P : Program} {l : Option Nat} {tt : TT} {n m : Nat} {all : Array Oper} {rest : List Oper} {env : Env} {σ : Sto} {Q : Post} {d : Nat} {ty : TypeId} {pos : String} {after : Array Edge}
theorem op_callC {σ' : Sto} {fo : Operand} {args : Array Operand} {ats : Array TypeId} {f : FuncId} {bs ps : List PV} {p : PV} (hcal : Callable P f) (hc : SatCall P f ps σ fun x s => x = p ∧ s = σ') (hfo : opv tt env 0 fo = .fn (.func f) [] bs) (hps : passL tt env args.toList ats.toList ++ bs = ps) (hlen : Nat.ble args.size ats.size = true)
    (htup : ps.all (fun p => !p.isTup) = true) (hd : Nat.ble (d + 1) n = true) (h : SatOps P l n m all rest ((d, p) :: env) σ' Q) :
    SatOps P l n m all (⟨some d, .call ⟨.value fo, args, ats⟩, ty, pos, after, none⟩ :: rest) env σ Q :=
  op_call (tt := tt) (bs := bs) hcal hfo (by simp [hps]) (Nat.le_of_ble_eq_true hlen) htup hc (ltn hd) fun r s ⟨h1, h2⟩ => by subst h1; subst h2; exact h
end

def numsTo (s : ByteArray) (l : List Int) : ByteArray := l.foldl (fun s z => s ++ numB z.toNat) s
theorem numsTo_snoc (s : ByteArray) (l : List Int) (z : Int) : numsTo s (l ++ [z]) = numsTo s l ++ numB z.toNat := by simp [numsTo]
theorem numsTo_size (s : ByteArray) : ∀ l : List Int, (∀ z ∈ l, 0 ≤ z ∧ z < 18446744073709551616) → (numsTo s l).size ≤ s.size + 10 * l.length := by
  intro l
  induction l generalizing s with
  | nil => intro _; simp [numsTo]
  | cons z r ih =>
    intro h
    have h1 := ih (s ++ numB z.toNat) fun x hx => h x (List.mem_cons_of_mem _ hx)
    have h2 := numB_size (v := z.toNat) (by have := h z List.mem_cons_self; omega)
    have e : numsTo s (z :: r) = numsTo (s ++ numB z.toNat) r := rfl
    rw [size_app] at h1
    rw [e, List.length_cons]; omega

set_option maxHeartbeats 1000000 in
theorem bytesI1_sat (l : List Int) (hl : ∀ z ∈ l, 0 ≤ z ∧ z < 9223372036854775808) (hll : l.length ≤ 1048576) (hne : l ≠ []) (i : Nat) (u : Bool) (s : ByteArray) (σ : Sto) (hi : σ[i]? = some (bld i u s)) (hfit : s.size + 10 * l.length ≤ 70368744177664) :
    SatCall Try.prog 49 [.sl .sh 1 (l.map vi), .ptr i 0] σ fun x s' => x = .tup [] ∧ s' = σ.set i (bld i true (numsTo s l)) := by
  refine sat_fn tab Try.func49 rfl (Nat.le_of_ble_eq_true rfl) (by decide) fun hso => ?_
  have hil : i < σ.length := (List.getElem?_eq_some_iff.1 hi).1
  repeat' (first | (apply og_ops; (first | (apply og_move; (apply op_move (tt := tt); (focus ((conv => lhs; whnf); try exact rfl)); exact rfl)) | (apply og_callb; (apply op_len tab; (focus ((conv => lhs; whnf; arg 1; whnf; arg 2; whnf); try exact rfl)); (exact trivial); exact rfl)) | (apply ops_nil))) | (apply og_sat; (first | (apply sat_seq) | (apply sat_region) | (apply sat_block))) | (apply pe_norm))
  refine sat_loopW (fun j : Nat => [(5, .sl .sh 1 (l.map vi)), (1, .ptr i 0), (6, .int .i64 l.length), (7, .int .i64 j)]) (fun j => σ.set i (bld i (u || decide (0 < j)) (numsTo s (l.take j)))) (fun j => j ≤ l.length) (fun j => l.length - j) 0 (Nat.zero_le _) ?_ (by simp [numsTo]; exact set_at hi) ?_
  · rw [← List.length_map (f := vi)]
    (repeat' (first | exact trivial | exact Wk.same _ | refine ⟨?_, ?_⟩))
  intro j hj
  rcases Nat.lt_or_ge j l.length with hlt | hge
  · have c1 : decide ((j : Int) < (l.length : Int)) = true := decide_eq_true (by omega)
    have hz := hl _ (getD_memL (xs := l) (i := j) hlt)
    have hz' : 0 ≤ l.getD ((j : Nat) : Int).toNat default ∧ l.getD ((j : Nat) : Int).toNat default < 9223372036854775808 := by rw [Int.toNat_natCast]; exact hz
    have n1 := numZ_sat (l.getD ((j : Nat) : Int).toNat default) hz'.1 (by omega)
    repeat' (first | (apply og_ops; (first | (apply og_move; (apply op_move (tt := tt); (focus ((conv => lhs; whnf); try exact rfl)); exact rfl)) | (apply og_assign; (apply op_assign (tt := tt); (focus ((conv => lhs; whnf); try exact rfl)); exact rfl)) | (apply og_callv; (refine op_callP (tt := tt) cal51 (n1 _) rfl rfl rfl rfl rfl ?_)) | (apply og_bin; (apply op_bin true tab; (focus ((conv => lhs; whnf; arg 1; whnf; arg 2; whnf); try exact rfl)); (exact trivial); exact rfl)) | (apply og_load; (apply op_load tab; (focus ((conv => lhs; whnf; arg 1; whnf; arg 2; whnf); try skip)); (exact trivial); exact rfl)) | (apply og_indexAddr; (refine op_indexMap (tI := 3) _ tab rfl (by (focus ((conv => lhs; whnf); try exact rfl))) (by (focus ((conv => lhs; whnf); try exact rfl))) rfl (by (omega)) (by (omega)) (by (focus ((conv => lhs; whnf); try exact rfl))) (ltn rfl) ?_)) | (apply og_conv; (apply op_conv true tab; (focus ((conv => lhs; whnf; arg 1; whnf; arg 2; whnf); try exact rfl)); (simp only [InR]; omega); exact rfl)) | (apply ops_nil))) | (apply og_sat; (first | (apply sat_seq) | (apply sat_region) | (apply sat_cond_t; exact rfl; (assumption)) | (apply sat_skip) | (apply sat_block))) | (apply pe_norm))
    have hs1 := numsTo_size s (l.take j) fun z hz => by have := hl z (List.mem_of_mem_take hz); omega
    have hs2 := numB_size (v := (l.getD ((j : Nat) : Int).toNat default).toNat) (by omega)
    rw [List.length_take] at hs1
    have hw := writeString_sat i (u || decide (0 < j)) (numsTo s (l.take j)) (numB (l.getD ((j : Nat) : Int).toNat default).toNat) (σ.set i (bld i (u || decide (0 < j)) (numsTo s (l.take j)))) (List.getElem?_set_self hil) (by omega)
    rw [List.set_set] at hw
    refine op_callS (tt := tt) cal50 hw rfl rfl rfl rfl rfl ?_
    clear hw n1
    repeat' (first | (apply og_ops; (first | (apply og_move; (apply op_move (tt := tt); (focus ((conv => lhs; whnf); try exact rfl)); exact rfl)) | (apply og_bin; (apply op_bin true tab; (focus ((conv => lhs; whnf; arg 1; whnf; arg 2; whnf); try exact rfl)); (simp only [InR]; omega); exact rfl)) | (apply ops_nil))) | (apply og_sat; (apply sat_region)) | (apply pe_norm) | (apply pb_norm))
    refine ⟨j + 1, by omega, by omega, ?_, ?_⟩
    · (repeat' (first | exact trivial | exact Wk.same _ | refine ⟨?_, ?_⟩))
    · rw [List.take_succ_eq_append_getElem hlt, numsTo_snoc, Int.toNat_natCast, List.getD_eq_getElem?_getD, List.getElem?_eq_getElem hlt]
      simp
  · have c1 : decide ((j : Int) < (l.length : Int)) = false := decide_eq_false (by omega)
    have hjj : j = l.length := by omega
    subst hjj
    have hp : 0 < l.length := List.length_pos_iff.2 hne
    rw [List.take_length, decide_eq_true hp, Bool.or_true]
    repeat' (first | (apply og_ops; (first | (apply og_bin; (apply op_bin true tab; (focus ((conv => lhs; whnf; arg 1; whnf; arg 2; whnf); try exact rfl)); (exact trivial); exact rfl)) | (apply ops_nil))) | (apply og_sat; (first | (apply sat_seq) | (apply sat_region) | (apply sat_cond_f; exact rfl; (assumption)) | (apply sat_exit))) | (apply pe_norm) | (apply pe_exit) | (apply pb_same))
    (change fnPost _ _ _ _ _ _ _; apply fn_end0; (exact .inl rfl); exact rfl)
    exact ⟨rfl, rfl⟩

end Go.Proofs.Ytbjmafbbjhoddaa.Pv
