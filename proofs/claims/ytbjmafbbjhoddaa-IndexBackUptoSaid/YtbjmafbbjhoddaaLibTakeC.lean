/- A number off a reader; one that is none is thrown. -/
import Derived.Test.YtbjmafbbjhoddaaLibTake
import Derived.Test.YtbjmafbbjhoddaaLibImpM
import Derived.Test.YtbjmafbbjhoddaaLibTakeR
namespace Go.Proofs.Ytbjmafbbjhoddaa.Pv
open Go
set_option linter.unusedVariables false
set_option linter.unusedSimpArgs false
set_option maxRecDepth 100000

def okN (s : ByteArray) (top : Nat) : Prop := (takeN s).2.2 = 0 ∧ (takeN s).1 ≤ top
instance (s : ByteArray) (top : Nat) : Decidable (okN s top) := inferInstanceAs (Decidable (_ ∧ _))

theorem rnum_sat (s : ByteArray) (top : Nat) (hs : s.size ≤ 9223372036854775807) (ht : top ≤ 4294967296) (σ : Sto) :
    SatCallE Try.prog 58 [.ptr (σ.length + 0) 0, .int .u64 top] (σ ++ [.cells [.str s]]) (fun x s' => okN s top ∧ x = .int .i64 (takeN s).1 ∧ s' = σ ++ [.cells [.str (takeN s).2.1]]) fun ch s' => ¬ okN s top ∧ ch = oddCh ∧ s' = σ ++ [.cells [.str s]] := by
  refine sat_fnE tab Try.func58 rfl (Nat.le_of_ble_eq_true rfl) (by decide) fun hso => ?_
  have hq := takeNum_sat s hs
  unfold okN
  generalize takeN s = q at *
  obtain ⟨v, r, e⟩ := q
  dsimp only at *
  by_cases h1 : e = 0
  · have c1 : (e != 0) = false := by simpa using h1
    by_cases h2 : v ≤ top
    · have c2 : decide ((top : Int) < (v : Int)) = false := decide_eq_false (by omega)
      repeat' (first | (apply og_ops; (first | (apply og_guard; (apply ops_guard_t; exact (rfl : _ = some _); exact (rfl : _ = PV.bool _); (assumption))) | (apply og_move; (apply op_move (tt := tt); (focus ((conv => lhs; whnf); try exact rfl)); exact rfl)) | (apply og_assign; (apply op_assign (tt := tt); (focus ((conv => lhs; whnf); try exact rfl)); exact rfl)) | (apply og_callv; (refine op_callP (tt := tt) cal92 (hq _) rfl rfl rfl rfl rfl ?_)) | (apply og_bin; (apply op_bin true tab; (focus ((conv => lhs; whnf; arg 1; whnf; arg 2; whnf); try exact rfl)); (exact trivial); exact rfl)) | (apply og_pick; (apply op_pick (tt := tt); exact (rfl : _ = PV.bool _); (refine .inr ⟨by assumption, ?_⟩); (focus ((conv => lhs; whnf); try exact rfl)); exact ltn rfl)) | (apply og_load; (apply op_lk; (apply lk_loadX tab; exact rfl; exact rfl; exact rfl; (focus ((conv => lhs; whnf; arg 1; whnf; arg 2; whnf); try skip)); (exact trivial)); (intro c h; cases h); exact rfl)) | (apply og_fieldAddr; (apply op_lk; (apply lk_fieldAddrB tab; exact rfl; (focus ((conv => lhs; whnf); try exact rfl)); exact rfl; (exact (rfl : _ = 0))); (intro c h; cases h); exact rfl)) | (apply og_conv; (apply op_conv true tab; (focus ((conv => lhs; whnf; arg 1; whnf; arg 2; whnf); try exact rfl)); (simp only [InR]; omega); exact rfl)) | (apply og_extract; (apply op_extract (tt := tt); (focus ((conv => lhs; whnf; arg 1; whnf; arg 2; whnf); try exact rfl)); (exact trivial); exact rfl)) | (apply og_store; (apply op_storeX tab; exact rfl; exact rfl; exact rfl; exact rfl; exact rfl; exact rfl; exact rfl; exact rfl)) | (apply og_nilCheck; (apply op_lk; (apply lk_nilCheck (tt := tt); (focus ((conv => lhs; whnf); try exact rfl))); (intro c h; cases h); exact rfl)) | (apply ops_nil))) | (apply og_sat; (first | (apply sat_seq) | (apply sat_region) | (apply sat_cond_f; exact rfl; (assumption)) | (apply sat_skip) | (apply sat_ret))) | (apply pe_norm))
      refine .inl ?_
      (change fnPost _ _ _ _ _ _ _; apply fn_endB; (exact .inr rfl); (focus (repeat' (first | (apply rr_tmp; (focus ((conv => lhs; whnf); try exact rfl)); (exact Wk.same _)) | exact rr_nil))); exact rfl; exact rfl; exact hso; (focus (repeat' (exact And.intro trivial trivial))); (focus (repeat' (exact And.intro trivial trivial))))
      exact ⟨⟨h1, h2⟩, rfl, rfl⟩
    · have c2 : decide ((top : Int) < (v : Int)) = true := decide_eq_true (by omega)
      repeat' (first | (apply og_ops; (first | (apply og_guard; (apply ops_guard_t; exact (rfl : _ = some _); exact (rfl : _ = PV.bool _); (assumption))) | (apply og_move; (apply op_move (tt := tt); (focus ((conv => lhs; whnf); try exact rfl)); exact rfl)) | (apply og_assign; (apply op_assign (tt := tt); (focus ((conv => lhs; whnf); try exact rfl)); exact rfl)) | (apply og_callv; (refine op_callP (tt := tt) cal92 (hq _) rfl rfl rfl rfl rfl ?_)) | (apply og_bin; (apply op_bin true tab; (focus ((conv => lhs; whnf; arg 1; whnf; arg 2; whnf); try exact rfl)); (exact trivial); exact rfl)) | (apply og_pick; (apply op_pick (tt := tt); exact (rfl : _ = PV.bool _); (refine .inr ⟨by assumption, ?_⟩); (focus ((conv => lhs; whnf); try exact rfl)); exact ltn rfl)) | (apply og_load; (apply op_lk; (apply lk_loadX tab; exact rfl; exact rfl; exact rfl; (focus ((conv => lhs; whnf; arg 1; whnf; arg 2; whnf); try skip)); (exact trivial)); (intro c h; cases h); exact rfl)) | (apply og_fieldAddr; (apply op_lk; (apply lk_fieldAddrB tab; exact rfl; (focus ((conv => lhs; whnf); try exact rfl)); exact rfl; (exact (rfl : _ = 0))); (intro c h; cases h); exact rfl)) | (apply og_extract; (apply op_extract (tt := tt); (focus ((conv => lhs; whnf; arg 1; whnf; arg 2; whnf); try exact rfl)); (exact trivial); exact rfl)) | (apply og_build; (apply op_lk; (apply lk_build tab; exact rfl; (focus ((conv => lhs; whnf; arg 1; whnf; arg 2; whnf); try skip))); (intro c h; cases h); exact rfl)) | (apply og_nilCheck; (apply op_lk; (apply lk_nilCheck (tt := tt); (focus ((conv => lhs; whnf); try exact rfl))); (intro c h; cases h); exact rfl)) | (apply ops_nil))) | (apply og_sat; (first | (apply sat_seq) | (apply sat_region) | (apply sat_cond_t; exact rfl; (assumption)))) | (apply pe_norm))
      refine op_lk (lk_mkIface (tt := tt) Try.underlying113 rfl) (by simp) rfl ?_
      refine op_panicR (tt := tt) rfl ?_
      repeat (first | apply pe_panic | apply pb_panic)
      exact .inr ⟨_, σ ++ [.cells [.str s]], [], rfl, (List.append_nil _).symm, .inl rfl, fun h => h2 h.2, rfl, rfl⟩
  · have c1 : (e != 0) = true := by simpa using h1
    repeat' (first | (apply og_ops; (first | (apply og_guard; (apply ops_guard_f'; exact (rfl : _ = some _); exact (rfl : _ = PV.bool _); (assumption); exact ltn rfl)) | (apply og_move; (apply op_move (tt := tt); (focus ((conv => lhs; whnf); try exact rfl)); exact rfl)) | (apply og_assign; (apply op_assign (tt := tt); (focus ((conv => lhs; whnf); try exact rfl)); exact rfl)) | (apply og_callv; (refine op_callP (tt := tt) cal92 (hq _) rfl rfl rfl rfl rfl ?_)) | (apply og_bin; (apply op_bin true tab; (focus ((conv => lhs; whnf; arg 1; whnf; arg 2; whnf); try exact rfl)); (exact trivial); exact rfl)) | (apply og_pick; (apply op_pick (tt := tt); exact (rfl : _ = PV.bool _); (refine .inl ⟨by assumption, ?_⟩); (focus ((conv => lhs; whnf); try exact rfl)); exact ltn rfl)) | (apply og_load; (apply op_lk; (apply lk_loadX tab; exact rfl; exact rfl; exact rfl; (focus ((conv => lhs; whnf; arg 1; whnf; arg 2; whnf); try skip)); (exact trivial)); (intro c h; cases h); exact rfl)) | (apply og_fieldAddr; (apply op_lk; (apply lk_fieldAddrB tab; exact rfl; (focus ((conv => lhs; whnf); try exact rfl)); exact rfl; (exact (rfl : _ = 0))); (intro c h; cases h); exact rfl)) | (apply og_extract; (apply op_extract (tt := tt); (focus ((conv => lhs; whnf; arg 1; whnf; arg 2; whnf); try exact rfl)); (exact trivial); exact rfl)) | (apply og_build; (apply op_lk; (apply lk_build tab; exact rfl; (focus ((conv => lhs; whnf; arg 1; whnf; arg 2; whnf); try skip))); (intro c h; cases h); exact rfl)) | (apply og_nilCheck; (apply op_lk; (apply lk_nilCheck (tt := tt); (focus ((conv => lhs; whnf); try exact rfl))); (intro c h; cases h); exact rfl)) | (apply ops_nil))) | (apply og_sat; (first | (apply sat_seq) | (apply sat_region) | (apply sat_cond_t; exact rfl; (exact rfl)))) | (apply pe_norm))
    refine op_lk (lk_mkIface (tt := tt) Try.underlying113 rfl) (by simp) rfl ?_
    refine op_panicR (tt := tt) rfl ?_
    repeat (first | apply pe_panic | apply pb_panic)
    exact .inr ⟨_, σ ++ [.cells [.str s]], [], rfl, (List.append_nil _).symm, .inl rfl, fun h => h1 h.1, rfl, rfl⟩

end Go.Proofs.Ytbjmafbbjhoddaa.Pv
