/- The closure that recovers, of index.Take. -/
import Derived.Test.YtbjmafbbjhoddaaPvZx
import Derived.Test.YtbjmafbbjhoddaaLibIdx
namespace Go.Proofs.Ytbjmafbbjhoddaa.Pv
open Go
set_option linter.unusedVariables false
set_option linter.unusedSimpArgs false
set_option maxRecDepth 100000

abbrev oddCh : List PanicEntry := [{ v := .iface 113 (.agg #[]), recovered := false }]
abbrev oddCh' : List PanicEntry := [{ v := .iface 113 (.agg #[]), recovered := true }]
abbrev zeroC : List PV := [.int .i64 0, .int .i64 0, .int .i64 0, .str ByteArray.empty, .int .i64 0, .int .i64 0, .int .i64 0, .int .u32 0, .int .i64 0, .int .i64 0, .int .i64 0, .sl .sh 2 []]

theorem putAt_all {cs vs : List PV} (h : vs.length = cs.length) : putAt cs 0 vs = vs := by
  obtain ⟨q1, q2⟩ := putAt_get cs 0 vs (by omega)
  refine List.ext_getElem? fun j => ?_
  rw [q2]
  by_cases hj : j < vs.length
  · rw [if_pos ⟨Nat.zero_le _, by omega⟩, Nat.sub_zero]
  · rw [if_neg (by omega), List.getElem?_eq_none (by omega), List.getElem?_eq_none (by omega)]
theorem stoOK_two {σ rest : Sto} {C E C' E' : List PV} (h : StoOK (σ ++ .cells C :: .cells E :: rest)) (hC : ltAll 0 C') (hE : ltAll 0 E') : StoOK (σ ++ .cells C' :: .cells E' :: rest) := by
  have hl : (σ ++ .cells C' :: .cells E' :: rest).length = (σ ++ .cells C :: .cells E :: rest).length := by simp
  have up : ∀ {l : List PV} {k : Nat}, ltAll 0 l → ltAll k l := fun h => by rw [ltAll_iff] at h ⊢; exact fun v hv => lt_mono (Nat.zero_le _) (h v hv)
  intro i e hi
  rw [hl]
  by_cases h1 : i < σ.length
  · rw [List.getElem?_append_left h1] at hi
    exact h i e (by rw [List.getElem?_append_left h1]; exact hi)
  · rw [List.getElem?_append_right (by omega)] at hi
    have h0 := h i
    rw [List.getElem?_append_right (by omega)] at h0
    cases hj : i - σ.length with
    | zero => rw [hj] at hi; cases hi; exact up hC
    | succ j => cases j with
      | zero => rw [hj] at hi; cases hi; exact up hE
      | succ j => rw [hj] at hi h0; exact h0 e hi

theorem take1_ret (s : Sto) (cs : List PV) (h2 : cs.length = 2) : SatDefer Try.prog 57 cs s s .returning .returning := by
  refine satDefer_of tab Try.func57 rfl (by rw [h2]; exact Nat.le_of_ble_eq_true rfl) (by decide) (ltn rfl) (ltn rfl) (.inl ⟨rfl, rfl, rfl⟩) fun hso => ?_
  refine satK_seq (satK_region rfl ?_)
  repeat' (apply og_ops; (apply og_move; (apply op_move (tt := tt); (focus ((conv => lhs; whnf); try exact rfl)); exact rfl)))
  refine op_lk (lk_neqNilN (tt := tt) Try.underlying20 rfl) (by simp) rfl ?_
  refine ops_nil (pe_norm ?_)
  refine satK_cond (b := false) rfl (by intro h; cases h) fun _ => satK_skip ?_
  exact fn_endN (tt := tt) (ex := []) [] (.inl rfl) trivial rfl (List.append_nil _).symm (Nat.le_refl _) trivial hso rfl

theorem take1_pan (σ rest : Sto) (C E : List PV) (hC : C.length = 12) (hE : E.length = 1) :
    SatDefer Try.prog 57 [.ptr (σ.length + 0) 0, .ptr (σ.length + 1) 0] (σ ++ .cells C :: .cells E :: rest) (σ ++ .cells zeroC :: .cells [.int .i64 3] :: rest) (.panicking oddCh) (.panicking oddCh') := by
  refine satDefer_of tab Try.func57 rfl (Nat.le_of_ble_eq_true rfl) (by decide) (ltn rfl) (ltn rfl) (.inr ⟨_, _, _, rfl, rfl, rfl⟩) fun hso => ?_
  refine satK_seq (satK_region rfl ?_)
  repeat' (apply og_ops; (apply og_move; (apply op_move (tt := tt); (focus ((conv => lhs; whnf); try exact rfl)); exact rfl)))
  refine op_lk (lk_neqNilR (tt := tt) Try.underlying20 rfl) (by simp) rfl ?_
  refine ops_nil (pe_norm ?_)
  refine satK_cond (b := true) rfl (fun _ => ?_) (by intro h; cases h)
  refine satK_seq (satK_seq (satK_region rfl ?_))
  repeat' (apply og_ops; (apply og_move; (apply op_move (tt := tt); (focus ((conv => lhs; whnf); try exact rfl)); exact rfl)))
  refine op_lk (lk_tAssert (tt := tt) Try.underlying113 rfl) (by simp) rfl ?_
  repeat' (apply og_ops; (first | (apply og_move; (apply op_move (tt := tt); (focus ((conv => lhs; whnf); try exact rfl)); exact rfl)) | (apply og_extract; (apply op_extract (tt := tt); (focus ((conv => lhs; whnf; arg 1; whnf; arg 2; whnf); try exact rfl)); (exact trivial); exact rfl))))
  refine op_alloc tab rfl (ltn rfl) ?_
  refine op_storeX (τ := σ ++ .cells C :: .cells E :: rest) (ex := [.cells []]) (k := 0) (off := 0) (cs := []) (p := .agg []) tab rfl rfl rfl rfl rfl rfl rfl rfl ?_
  repeat' (first | (apply og_ops; (first | (apply og_assign; (apply op_assign (tt := tt); (focus ((conv => lhs; whnf); try exact rfl)); exact rfl)) | (apply ops_nil))) | (apply pe_norm))
  refine satK_seq (satK_region rfl ?_)
  repeat' (first | (apply og_ops; (first | (apply og_move; (apply op_move (tt := tt); (focus ((conv => lhs; whnf); try exact rfl)); exact rfl)) | (apply og_un; (apply op_un (tt := tt) true; (focus ((conv => lhs; whnf; arg 1; whnf; arg 2; whnf); try exact rfl)); (exact trivial); exact rfl)) | (apply ops_nil))) | (apply pe_norm))
  refine (satK_cond (b := false) rfl (by intro h; cases h) fun _ => satK_skip ?_)
  refine pe_norm ?_
  refine (satK_region rfl ?_)
  have e0 : (σ ++ .cells C :: .cells E :: rest) ++ [Ent.cells []].set 0 (.cells (putAt [] 0 (PV.agg []).cells)) = σ ++ (.cells C :: .cells E :: (rest ++ [Ent.cells []])) := by
    rw [List.append_assoc]; rfl
  refine ops_sto e0 ?_
  repeat' (apply og_ops; (apply og_build; (apply op_lk; (apply lk_build tab; exact rfl; (focus ((conv => lhs; whnf; arg 1; whnf; arg 2; whnf); try skip))); (intro c h; cases h); exact rfl)))
  refine op_storeX (τ := σ) (k := 0) (off := 0) (cs := C) (p := .agg zeroC) tab rfl rfl rfl rfl rfl rfl rfl (by rw [hC]; rfl) ?_
  refine op_storeX (τ := σ) (k := 1) (off := 0) (cs := E) (p := .int .i64 3) tab rfl rfl rfl rfl rfl rfl rfl (by rw [hE]; rfl) ?_
  refine ops_nil ?_
  have e1 : putAt C 0 (PV.agg zeroC).cells = zeroC := putAt_all (by rw [hC]; rfl)
  have e2 : putAt E 0 (PV.int .i64 3).cells = [.int .i64 3] := putAt_all (by rw [hE]; rfl)
  have e3 : σ ++ ((.cells C :: .cells E :: (rest ++ [Ent.cells []])).set 0 (.cells (putAt C 0 (PV.agg zeroC).cells))).set 1 (.cells (putAt E 0 (PV.int .i64 3).cells)) = (σ ++ .cells zeroC :: .cells [.int .i64 3] :: rest) ++ [Ent.cells []] := by
    rw [e1, e2, List.append_assoc]; rfl
  exact fn_endN (tt := tt) (τ := σ ++ .cells zeroC :: .cells [.int .i64 3] :: rest) (ex := [.cells []]) [] (.inl rfl) trivial rfl e3 (by simp) trivial (stoOK_two hso (by simp [ltAll, PV.lt]) (by simp [ltAll, PV.lt])) rfl

end Go.Proofs.Ytbjmafbbjhoddaa.Pv
