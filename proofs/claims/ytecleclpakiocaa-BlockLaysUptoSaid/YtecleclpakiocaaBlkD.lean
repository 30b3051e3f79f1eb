/- block.within, block.Lay. -/
import Derived.Test.YtecleclpakiocaaBlkC
namespace Go.Proofs.Ytecleclpakiocaa.Pv
open Go
set_option linter.unusedVariables false
set_option linter.unusedSimpArgs false
set_option maxRecDepth 100000

def withinP (a n z : Int) : Bool := decide (0 ≤ a ∧ 0 ≤ n ∧ a ≤ z ∧ n ≤ z - a)

theorem within_sat (a n z : Int) (hz : 0 ≤ z) (hz2 : z ≤ 9223372036854775807) (σ : Sto) : SatCall Try.prog 23 [.int .i64 a, .int .i64 n, .int .i64 z] σ fun x σ' => x = .bool (withinP a n z) ∧ σ' = σ := by
  refine sat_fn tab Try.func23 rfl (Nat.le_of_ble_eq_true rfl) (by decide) fun hso => ?_
  by_cases h1 : 0 ≤ a
  · have c1 : decide (0 ≤ a) = true := decide_eq_true h1
    by_cases h2 : 0 ≤ n
    · have c2 : decide (0 ≤ n) = true := decide_eq_true h2
      by_cases h3 : a ≤ z
      · have c3 : decide (a ≤ z) = true := decide_eq_true h3
        repeat' (first | (apply og_ops; (first | (apply og_guard; (apply ops_guard_t; exact (rfl : _ = some _); exact (rfl : _ = PV.bool _); (assumption))) | (apply og_move; (apply op_move (tt := tt); (focus ((conv => lhs; whnf); try exact rfl)); exact rfl)) | (apply og_assign; (apply op_assign (tt := tt); (focus ((conv => lhs; whnf); try exact rfl)); exact rfl)) | (apply og_bin; (apply op_bin true tab; (focus ((conv => lhs; whnf; arg 1; whnf; arg 2; whnf); try exact rfl)); (first | exact trivial | (simp only [InR]; omega)); exact rfl)) | (apply og_pick; (apply op_pick (tt := tt); exact (rfl : _ = PV.bool _); (refine .inl ⟨by assumption, ?_⟩); (focus ((conv => lhs; whnf); try exact rfl)); exact ltn rfl)) | (apply ops_nil))) | (apply og_sat; (first | (apply sat_seq) | (apply sat_region) | (apply sat_ret))) | (apply pe_norm))
        (change fnPost _ _ _ _ _ _ _; apply fn_endN; (exact .inr rfl); (focus (repeat' (first | (apply rr_tmp; (focus ((conv => lhs; whnf); try exact rfl)); (exact Wk.same _)) | exact rr_nil))); exact rfl; (exact (List.append_nil _).symm); exact Nat.le_refl _; (focus (repeat' (first | exact trivial | refine ⟨?_, ?_⟩))); exact hso)
        exact ⟨by simp [withinP, h1, h2, h3, resOf], rfl⟩
      · have c3 : decide (a ≤ z) = false := decide_eq_false h3
        repeat' (first | (apply og_ops; (first | (apply og_guard; (first | (apply ops_guard_t; exact (rfl : _ = some _); exact (rfl : _ = PV.bool _); (assumption)) | (apply ops_guard_f'; exact (rfl : _ = some _); exact (rfl : _ = PV.bool _); (assumption); exact ltn rfl))) | (apply og_move; (apply op_move (tt := tt); (focus ((conv => lhs; whnf); try exact rfl)); exact rfl)) | (apply og_assign; (apply op_assign (tt := tt); (focus ((conv => lhs; whnf); try exact rfl)); exact rfl)) | (apply og_bin; (apply op_bin true tab; (focus ((conv => lhs; whnf; arg 1; whnf; arg 2; whnf); try exact rfl)); (exact trivial); exact rfl)) | (apply og_pick; (apply op_pick (tt := tt); exact (rfl : _ = PV.bool _); (first | refine .inl ⟨by assumption, ?_⟩ | refine .inr ⟨by assumption, ?_⟩); (focus ((conv => lhs; whnf); try exact rfl)); exact ltn rfl)) | (apply ops_nil))) | (apply og_sat; (first | (apply sat_seq) | (apply sat_region) | (apply sat_ret))) | (apply pe_norm))
        (change fnPost _ _ _ _ _ _ _; apply fn_endN; (exact .inr rfl); (focus (repeat' (first | (apply rr_tmp; (focus ((conv => lhs; whnf); try exact rfl)); (exact Wk.same _)) | exact rr_nil))); exact rfl; (exact (List.append_nil _).symm); exact Nat.le_refl _; (focus (repeat' (first | exact trivial | refine ⟨?_, ?_⟩))); exact hso)
        exact ⟨by simp [withinP, h1, h2, h3, resOf], rfl⟩
    · have c2 : decide (0 ≤ n) = false := decide_eq_false h2
      repeat' (first | (apply og_ops; (first | (apply og_guard; (first | (apply ops_guard_t; exact (rfl : _ = some _); exact (rfl : _ = PV.bool _); (assumption)) | (apply ops_guard_f'; exact (rfl : _ = some _); exact (rfl : _ = PV.bool _); (first | exact rfl | assumption); exact ltn rfl))) | (apply og_move; (apply op_move (tt := tt); (focus ((conv => lhs; whnf); try exact rfl)); exact rfl)) | (apply og_assign; (apply op_assign (tt := tt); (focus ((conv => lhs; whnf); try exact rfl)); exact rfl)) | (apply og_bin; (apply op_bin true tab; (focus ((conv => lhs; whnf; arg 1; whnf; arg 2; whnf); try exact rfl)); (exact trivial); exact rfl)) | (apply og_pick; (apply op_pick (tt := tt); exact (rfl : _ = PV.bool _); (first | refine .inr ⟨rfl, ?_⟩ | refine .inl ⟨by assumption, ?_⟩ | refine .inr ⟨by assumption, ?_⟩); (focus ((conv => lhs; whnf); try exact rfl)); exact ltn rfl)) | (apply ops_nil))) | (apply og_sat; (first | (apply sat_seq) | (apply sat_region) | (apply sat_ret))) | (apply pe_norm))
      (change fnPost _ _ _ _ _ _ _; apply fn_endN; (exact .inr rfl); (focus (repeat' (first | (apply rr_tmp; (focus ((conv => lhs; whnf); try exact rfl)); (exact Wk.same _)) | exact rr_nil))); exact rfl; (exact (List.append_nil _).symm); exact Nat.le_refl _; (focus (repeat' (first | exact trivial | refine ⟨?_, ?_⟩))); exact hso)
      exact ⟨by simp [withinP, h1, h2, resOf], rfl⟩
  · have c1 : decide (0 ≤ a) = false := decide_eq_false h1
    repeat' (first | (apply og_ops; (first | (apply og_guard; (apply ops_guard_f'; exact (rfl : _ = some _); exact (rfl : _ = PV.bool _); (first | exact rfl | assumption); exact ltn rfl)) | (apply og_move; (apply op_move (tt := tt); (focus ((conv => lhs; whnf); try exact rfl)); exact rfl)) | (apply og_assign; (apply op_assign (tt := tt); (focus ((conv => lhs; whnf); try exact rfl)); exact rfl)) | (apply og_bin; (apply op_bin true tab; (focus ((conv => lhs; whnf; arg 1; whnf; arg 2; whnf); try exact rfl)); (exact trivial); exact rfl)) | (apply og_pick; (apply op_pick (tt := tt); exact (rfl : _ = PV.bool _); (first | refine .inr ⟨rfl, ?_⟩ | refine .inr ⟨by assumption, ?_⟩); (focus ((conv => lhs; whnf); try exact rfl)); exact ltn rfl)) | (apply ops_nil))) | (apply og_sat; (first | (apply sat_seq) | (apply sat_region) | (apply sat_ret))) | (apply pe_norm))
    (change fnPost _ _ _ _ _ _ _; apply fn_endN; (exact .inr rfl); (focus (repeat' (first | (apply rr_tmp; (focus ((conv => lhs; whnf); try exact rfl)); (exact Wk.same _)) | exact rr_nil))); exact rfl; (exact (List.append_nil _).symm); exact Nat.le_refl _; (focus (repeat' (first | exact trivial | refine ⟨?_, ?_⟩))); exact hso)
    exact ⟨by simp [withinP, h1, resOf], rfl⟩

/-- A part: where it begins, its bytes. -/
abbrev prt (x : Int × ByteArray) : PV := .agg [.int .i64 x.1, .str x.2]
def layStep (b : List Int) (x : Int × ByteArray) : Option (List Int) := if withinP x.1 x.2.size b.length then some (ovl b x.1.toNat (bi x.2)) else none
def layI (b : List Int) (l : List (Int × ByteArray)) : Option (List Int) := l.foldlM layStep b
def layP (z : Int) (l : List (Int × ByteArray)) : ByteArray × Int :=
  if z < 0 ∨ 65536 < z then (⟨#[]⟩, 1) else match layI (List.replicate z.toNat 0) l with
    | some b => (ofI b, 0)
    | none => (⟨#[]⟩, 1)

theorem layStep_len {b b' : List Int} {x : Int × ByteArray} (h : layStep b x = some b') : b'.length = b.length := by
  unfold layStep at h
  split at h
  · rename_i hw
    simp only [withinP, decide_eq_true_eq] at hw
    cases h; exact ovl_len (by rw [bi_len]; omega)
  · cases h
theorem layI_len : ∀ (l : List (Int × ByteArray)) {b b' : List Int}, layI b l = some b' → b'.length = b.length
  | [], b, b', h => by simp [layI] at h; rw [h]
  | x :: r, b, b', h => by
    simp only [layI, List.foldlM_cons] at h
    cases h1 : layStep b x with
    | none => rw [h1] at h; cases h
    | some b1 => rw [h1] at h; exact (layI_len r (h : layI b1 r = some b')).trans (layStep_len h1)
theorem layI_snoc (b : List Int) (l : List (Int × ByteArray)) (x : Int × ByteArray) : layI b (l ++ [x]) = (layI b l).bind (layStep · x) := by
  simp only [layI, List.foldlM_append, List.foldlM_cons, List.foldlM_nil]
  cases List.foldlM layStep b l with
  | none => rfl
  | some b1 =>
    change (layStep b1 x).bind _ = layStep b1 x
    cases layStep b1 x <;> rfl
theorem layI_none {b : List Int} {l : List (Int × ByteArray)} {i : Nat} (h : layI b (l.take i) = none) : layI b l = none := by
  conv => lhs; rw [← List.take_append_drop i l]
  simp only [layI, List.foldlM_append] at h ⊢
  rw [h]; rfl

theorem lay_sat (z : Int) (l : List (Int × ByteArray)) (hl : l.length ≤ 9223372036854775806) (σ : Sto) : SatCall Try.prog 16 [.int .i64 z, .sl .sh 2 (l.map prt)] σ fun x σ' => x = .tup [.str (layP z l).1, .int .i64 (layP z l).2] ∧ σ' = σ := by
  refine sat_fn tab Try.func16 rfl (Nat.le_of_ble_eq_true rfl) (by decide) fun hso => ?_
  by_cases h0 : z < 0
  · have c0 : decide (z < 0) = true := decide_eq_true h0
    repeat' (first | (apply og_ops; (first | (apply og_guard; (apply ops_guard_f'; exact (rfl : _ = some _); exact (rfl : _ = PV.bool _); (assumption); exact ltn rfl)) | (apply og_move; (apply op_move (tt := tt); (focus ((conv => lhs; whnf); try exact rfl)); exact rfl)) | (apply og_assign; (apply op_assign (tt := tt); (focus ((conv => lhs; whnf); try exact rfl)); exact rfl)) | (apply og_bin; (apply op_bin true tab; (focus ((conv => lhs; whnf; arg 1; whnf; arg 2; whnf); try exact rfl)); (exact trivial); exact rfl)) | (apply og_pick; (apply op_pick (tt := tt); exact (rfl : _ = PV.bool _); (refine .inl ⟨by assumption, ?_⟩); (focus ((conv => lhs; whnf); try exact rfl)); exact ltn rfl)) | (apply ops_nil))) | (apply og_sat; (first | (apply sat_seq) | (apply sat_region) | (apply sat_cond_t; exact rfl; (exact rfl)) | (apply sat_ret))) | (apply pe_norm) | (apply pe_ret))
    (change fnPost _ _ _ _ _ _ _; apply fn_endN; (exact .inr rfl); (focus (repeat' (first | (apply rr_tmp; (focus ((conv => lhs; whnf); try exact rfl)); (exact Wk.same _)) | exact rr_nil))); exact rfl; (exact (List.append_nil _).symm); exact Nat.le_refl _; (focus (repeat' (first | exact trivial | refine ⟨?_, ?_⟩))); exact hso)
    exact ⟨by rw [layP, if_pos (.inl h0)]; rfl, rfl⟩
  have c0 : decide (z < 0) = false := decide_eq_false h0
  by_cases h1 : 65536 < z
  · have c1 : decide (65536 < z) = true := decide_eq_true h1
    repeat' (first | (apply og_ops; (first | (apply og_guard; (apply ops_guard_t; exact (rfl : _ = some _); exact (rfl : _ = PV.bool _); (assumption))) | (apply og_move; (apply op_move (tt := tt); (focus ((conv => lhs; whnf); try exact rfl)); exact rfl)) | (apply og_assign; (apply op_assign (tt := tt); (focus ((conv => lhs; whnf); try exact rfl)); exact rfl)) | (apply og_bin; (apply op_bin true tab; (focus ((conv => lhs; whnf; arg 1; whnf; arg 2; whnf); try exact rfl)); (exact trivial); exact rfl)) | (apply og_pick; (apply op_pick (tt := tt); exact (rfl : _ = PV.bool _); (refine .inr ⟨by assumption, ?_⟩); (focus ((conv => lhs; whnf); try exact rfl)); exact ltn rfl)) | (apply ops_nil))) | (apply og_sat; (first | (apply sat_seq) | (apply sat_region) | (apply sat_cond_t; exact rfl; (assumption)) | (apply sat_ret))) | (apply pe_norm) | (apply pe_ret))
    (change fnPost _ _ _ _ _ _ _; apply fn_endN; (exact .inr rfl); (focus (repeat' (first | (apply rr_tmp; (focus ((conv => lhs; whnf); try exact rfl)); (exact Wk.same _)) | exact rr_nil))); exact rfl; (exact (List.append_nil _).symm); exact Nat.le_refl _; (focus (repeat' (first | exact trivial | refine ⟨?_, ?_⟩))); exact hso)
    exact ⟨by rw [layP, if_pos (.inr h1)]; rfl, rfl⟩
  have c1 : decide (65536 < z) = false := decide_eq_false h1
  obtain ⟨N, rfl⟩ : ∃ N : Nat, z = N := ⟨z.toNat, by omega⟩
  repeat' (first | (apply og_ops; (first | (apply og_guard; (apply ops_guard_t; exact (rfl : _ = some _); exact (rfl : _ = PV.bool _); (exact rfl))) | (apply og_move; (apply op_move (tt := tt); (focus ((conv => lhs; whnf); try exact rfl)); exact rfl)) | (apply og_assign; (apply op_assign (tt := tt); (focus ((conv => lhs; whnf); try exact rfl)); exact rfl)) | (apply og_bin; (apply op_bin true tab; (focus ((conv => lhs; whnf; arg 1; whnf; arg 2; whnf); try exact rfl)); (exact trivial); exact rfl)) | (apply og_pick; (apply op_pick (tt := tt); exact (rfl : _ = PV.bool _); (refine .inr ⟨rfl, ?_⟩); (focus ((conv => lhs; whnf); try exact rfl)); exact ltn rfl)) | (apply ops_nil))) | (apply og_sat; (first | (apply sat_seq) | (apply sat_region) | (apply sat_cond_f; exact rfl; (assumption)) | (apply sat_skip))) | (apply pe_norm))
  refine ops_sto (σ' := σ ++ []) (List.append_nil σ).symm ?_
  repeat' (first | (apply og_ops; (first | (apply og_move; (apply op_move (tt := tt); (focus ((conv => lhs; whnf); try exact rfl)); exact rfl)) | (apply og_assign; (apply op_assign (tt := tt); (focus ((conv => lhs; whnf); try exact rfl)); exact rfl)) | (apply og_callb; (apply op_len tab; (focus ((conv => lhs; whnf; arg 1; whnf; arg 2; whnf); try exact rfl)); (exact trivial); exact rfl)) | (apply og_makeSlice; (apply op_makeMX _ _ tab; exact rfl; exact rfl; exact rfl; (focus ((conv => lhs; whnf); try exact rfl)); (focus ((conv => lhs; whnf); try exact rfl)); exact rfl; exact rfl; (omega); (exact (rfl : _ = 0)); exact rfl)) | (apply ops_nil))) | (apply og_sat; (first | (apply sat_seq) | (apply sat_region) | (apply sat_block))) | (apply pe_norm))
  rw [Int.toNat_natCast]
  refine sat_loopD (fun x : Nat × List Int => [(0, .int .i64 N), (6, .bsl (σ.length + 0) 0 1 N N), (17, .sl .sh 2 (l.map prt)), (18, .int .i64 l.length), (19, .int .i64 x.1)]) (fun x => σ ++ [.cells (x.2.map (.int .u8))]) (fun x => x.1 ≤ l.length ∧ layI (List.replicate N 0) (l.take x.1) = some x.2) (fun x => l.length - x.1) (0, List.replicate N 0) ⟨Nat.zero_le _, rfl⟩ ?_ rfl ?_
  · (repeat' (first | exact trivial | exact Wk.same _ | (refine Wk.eq ?_; (conv => rhs; whnf); simp <;> fail) | refine ⟨?_, ?_⟩))
  rintro ⟨i, b⟩ ⟨hi, hb⟩
  dsimp only at hi hb ⊢
  have hbN : b.length = N := by rw [layI_len _ hb]; simp
  by_cases hil : i < l.length
  · have d1 : decide ((i : Int) < (l.length : Int)) = true := decide_eq_true (by omega)
    have ht : l.take (i + 1) = l.take i ++ [l.getD ((i : Nat) : Int).toNat default] := by
      rw [List.take_succ_eq_append_getElem hil]; simp [List.getD, hil]
    have hs := layI_snoc (List.replicate N 0) (l.take i) (l.getD ((i : Nat) : Int).toNat default)
    rw [← ht, hb, Option.bind_some, layStep, hbN] at hs
    cases hw : withinP (l.getD ((i : Nat) : Int).toNat default).1 ((l.getD ((i : Nat) : Int).toNat default).2.size : Int) (N : Int) with
    | false =>
      rw [hw, if_neg (by simp)] at hs
      have c2 : (!withinP (l.getD ((i : Nat) : Int).toNat default).1 ((l.getD ((i : Nat) : Int).toNat default).2.size : Int) (N : Int)) = true := by rw [hw]; rfl
      repeat' (first | (apply og_ops; (first | (apply og_move; (apply op_move (tt := tt); (focus ((conv => lhs; whnf); try exact rfl)); exact rfl)) | (apply og_assign; (apply op_assign (tt := tt); (focus ((conv => lhs; whnf); try exact rfl)); exact rfl)) | (apply og_callv; (refine op_callP (tt := tt) cal23 (within_sat _ _ _ ?_ ?_ _) rfl rfl rfl rfl rfl ?_; (omega); (omega))) | (apply og_bin; (apply op_bin true tab; (focus ((conv => lhs; whnf; arg 1; whnf; arg 2; whnf); try exact rfl)); (exact trivial); exact rfl)) | (apply og_load; (first | (apply op_lk; (apply lk_loadX tab; exact rfl; exact rfl; exact rfl; (focus ((conv => lhs; whnf; arg 1; whnf; arg 2; whnf); try skip)); (exact trivial)); (intro c h; cases h); exact rfl) | (apply op_load tab; (focus ((conv => lhs; whnf; arg 1; whnf; arg 2; whnf); try skip)); (exact Nat.le_of_ble_eq_true rfl); exact rfl))) | (apply og_callb; (apply op_len tab; (focus ((conv => lhs; whnf; arg 1; whnf; arg 2; whnf); try exact rfl)); (exact trivial); exact rfl)) | (apply og_indexAddr; (refine op_indexMap (tI := 3) _ tab rfl (by (focus ((conv => lhs; whnf); try exact rfl))) (by (focus ((conv => lhs; whnf); try exact rfl))) rfl (by (omega)) (by (omega)) (by (focus ((conv => lhs; whnf); try exact rfl))) (ltn rfl) ?_)) | (apply og_fieldAddr; (apply op_lk; (apply lk_fieldAddrB tab; exact rfl; (focus ((conv => lhs; whnf); try exact rfl)); exact rfl; (first | exact (rfl : _ = 0) | exact (rfl : _ = 1))); (intro c h; cases h); exact rfl)) | (apply og_un; (apply op_un (tt := tt) true; (focus ((conv => lhs; whnf; arg 1; whnf; arg 2; whnf); try exact rfl)); (exact trivial); exact rfl)) | (apply og_store; (apply op_storeX tab; exact rfl; exact rfl; exact rfl; exact rfl; exact rfl; exact rfl; exact rfl; exact rfl)) | (apply og_alloc; (apply op_allocX tab; exact rfl; exact rfl; (exact (rfl : _ = 1)); exact rfl)) | (apply ops_nil))) | (apply og_sat; (first | (apply sat_seq) | (apply sat_region) | (apply sat_cond_t; exact rfl; (assumption)) | (apply sat_skip) | (apply sat_ret) | (apply sat_block))) | (apply pe_norm) | (apply pe_ret) | (apply pb_ret))
      (change fnPost _ _ _ _ _ _ _; apply fn_endN; (exact .inr rfl); (focus (repeat' (first | (apply rr_tmp; (focus ((conv => lhs; whnf); try exact rfl)); (exact Wk.same _)) | exact rr_nil))); exact rfl; (exact rfl); exact Nat.le_refl _; (focus (repeat' (first | exact trivial | refine ⟨?_, ?_⟩))); exact hso)
      exact ⟨by rw [layP, if_neg (by omega), Int.toNat_natCast, layI_none hs]; rfl, rfl⟩
    | true =>
      rw [hw, if_pos rfl] at hs
      have c2 : (!withinP (l.getD ((i : Nat) : Int).toNat default).1 ((l.getD ((i : Nat) : Int).toNat default).2.size : Int) (N : Int)) = false := by rw [hw]; rfl
      have hw' := of_decide_eq_true hw
      obtain ⟨w1, w2, w3, w4⟩ := hw'
      repeat' (first | (apply og_ops; (first | (apply og_move; (apply op_move (tt := tt); (focus ((conv => lhs; whnf); try exact rfl)); exact rfl)) | (apply og_callv; (refine op_callP (tt := tt) cal23 (within_sat _ _ _ ?_ ?_ _) rfl rfl rfl rfl rfl ?_; (omega); (omega))) | (apply og_bin; (apply op_bin true tab; (focus ((conv => lhs; whnf; arg 1; whnf; arg 2; whnf); try exact rfl)); (first | exact trivial | (simp only [InR]; omega)); exact rfl)) | (apply og_load; (first | (apply op_lk; (apply lk_loadX tab; exact rfl; exact rfl; exact rfl; (focus ((conv => lhs; whnf; arg 1; whnf; arg 2; whnf); try skip)); (exact trivial)); (intro c h; cases h); exact rfl) | (apply op_load tab; (focus ((conv => lhs; whnf; arg 1; whnf; arg 2; whnf); try skip)); (exact Nat.le_of_ble_eq_true rfl); exact rfl))) | (apply og_callb; (first | (apply op_copyMX (PV.int .u8) (fun _ => rfl) (fun _ => rfl) (fun _ => rfl) tab; exact rfl; exact rfl; (focus ((conv => lhs; whnf); try exact rfl)); (exact (rfl : _ = some (Ent.cells (List.map _ _)))); (focus ((conv => lhs; whnf); try exact rfl)); (exact srcM_str); (omega); exact rfl) | (apply op_len tab; (focus ((conv => lhs; whnf; arg 1; whnf; arg 2; whnf); try exact rfl)); (exact trivial); exact rfl))) | (apply og_indexAddr; (refine op_indexMap (tI := 3) _ tab rfl (by (focus ((conv => lhs; whnf); try exact rfl))) (by (focus ((conv => lhs; whnf); try exact rfl))) rfl (by (omega)) (by (omega)) (by (focus ((conv => lhs; whnf); try exact rfl))) (ltn rfl) ?_)) | (apply og_fieldAddr; (apply op_lk; (apply lk_fieldAddrB tab; exact rfl; (focus ((conv => lhs; whnf); try exact rfl)); exact rfl; (first | exact (rfl : _ = 0) | exact (rfl : _ = 1))); (intro c h; cases h); exact rfl)) | (apply og_un; (apply op_un (tt := tt) true; (focus ((conv => lhs; whnf; arg 1; whnf; arg 2; whnf); try exact rfl)); (exact trivial); exact rfl)) | (apply og_store; (apply op_storeX tab; exact rfl; exact rfl; exact rfl; exact rfl; exact rfl; exact rfl; exact rfl; exact rfl)) | (apply og_alloc; (apply op_allocX tab; exact rfl; exact rfl; (exact (rfl : _ = 1)); exact rfl)) | (apply ops_nil))) | (apply og_sat; (first | (apply sat_seq) | (apply sat_region) | (apply sat_cond_t; exact rfl; (assumption)) | (apply sat_cond_f; exact rfl; (assumption)) | (apply sat_skip) | (apply sat_block) | (apply sat_drawC (k := 6); exact mixed; decide +kernel; decide +kernel))) | (apply pe_norm) | (apply pb_norm) | (apply og_dd; (first | (apply dd_lk; (first | (apply lg_move; (apply lk_move (tt := tt); (focus ((conv => lhs; whnf); try exact rfl)))) | (apply lg_fieldAddr; (apply lk_fieldAddrB tab; exact rfl; (focus ((conv => lhs; whnf); try exact rfl)); exact rfl; (first | exact (rfl : _ = 0) | exact (rfl : _ = 1)))) | (apply lg_load; (apply lk_loadX tab; exact rfl; exact rfl; exact rfl; (focus ((conv => lhs; whnf; arg 1; whnf; arg 2; whnf); try skip)); (exact trivial))) | (apply lg_slice; (apply lk_sliceB tab; exact rfl; (focus ((conv => lhs; whnf); try exact rfl)); exact rfl; exact rfl; (focus ((conv => lhs; whnf); try exact rfl)); (focus ((conv => lhs; whnf); try exact rfl)); (focus ((conv => lhs; whnf); try exact rfl)); (omega)))); exact rfl; exact rfl) | (apply dd_nil))))
      have e9 : (bi (l.getD ((i : Nat) : Int).toNat default).2).take (((N : Nat) : Int).toNat - (l.getD ((i : Nat) : Int).toNat default).1.toNat) = bi (l.getD ((i : Nat) : Int).toNat default).2 := List.take_of_length_le (by rw [bi_len]; omega)
      refine ⟨(i + 1, ovl b (l.getD ((i : Nat) : Int).toNat default).1.toNat (bi (l.getD ((i : Nat) : Int).toNat default).2)), ⟨by dsimp only; omega, hs⟩, by dsimp only; omega, ?_, [?bx], ?_, .inr ⟨by simp, stoOK_push hso (ltAll_map (f := PV.int .u8) (fun _ => trivial) _), envL_lt (by simp [PV.lt])⟩⟩
      case refine_2 => rw [Nat.zero_add, Nat.mul_one, e9, List.append_assoc]; rfl
      (repeat' (first | exact trivial | exact Wk.same _ | refine ⟨?_, ?_⟩))
  · have d1 : decide ((i : Int) < (l.length : Int)) = false := decide_eq_false (by omega)
    have hi' : i = l.length := by omega
    subst hi'
    rw [List.take_length] at hb
    repeat' (first | (apply og_ops; (first | (apply og_move; (apply op_move (tt := tt); (focus ((conv => lhs; whnf); try exact rfl)); exact rfl)) | (apply og_assign; (apply op_assign (tt := tt); (focus ((conv => lhs; whnf); try exact rfl)); exact rfl)) | (apply og_bin; (apply op_bin true tab; (focus ((conv => lhs; whnf; arg 1; whnf; arg 2; whnf); try exact rfl)); (exact trivial); exact rfl)) | (apply og_conv; (apply op_lk; (apply lk_bytesStr tab; exact rfl; exact rfl; exact rfl; exact rfl; (focus ((conv => lhs; whnf); try exact rfl)); (apply srcM_boxX0; exact rfl; (omega)); exact rfl); (intro c h; cases h); exact rfl)) | (apply ops_nil))) | (apply og_sat; (first | (apply sat_seq) | (apply sat_region) | (apply sat_cond_f; exact rfl; (assumption)) | (apply sat_ret) | (apply sat_exit))) | (apply pe_norm) | (apply pe_exit) | (apply pb_same))
    (change fnPost _ _ _ _ _ _ _; apply fn_endN; (exact .inr rfl); (focus (repeat' (first | (apply rr_tmp; (focus ((conv => lhs; whnf); try exact rfl)); (exact Wk.same _)) | exact rr_nil))); exact rfl; (exact rfl); exact Nat.le_refl _; (focus (repeat' (first | exact trivial | refine ⟨?_, ?_⟩))); exact hso)
    exact ⟨by rw [layP, if_neg (by omega), Int.toNat_natCast, hb]; rfl, rfl⟩

end Go.Proofs.Ytecleclpakiocaa.Pv
