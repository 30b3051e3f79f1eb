/- Builders of texts; numbers and texts as bytes. -/
import Derived.Test.YtbjmafbbjhoddaaTy
import Derived.Test.YtbjmafbbjhoddaaEq
import Derived.Test.YtbjmafbbjhoddaaPvZu
namespace Go.Proofs.Ytbjmafbbjhoddaa.Pv
open Go
set_option linter.unusedVariables false
set_option linter.unusedSimpArgs false
set_option maxRecDepth 100000

def bld (i : Nat) (u : Bool) (s : ByteArray) : Ent := .cells [if u then .tptr i 100 2 else .bnil i 100 2, .sl (.tb 5) 1 (bytesP s)]
theorem set_at {α : Type} {l : List α} {i : Nat} {e : α} (h : l[i]? = some e) : l.set i e = l := by
  apply List.ext_getElem?
  intro j
  rw [List.getElem?_set]
  split
  · rename_i e'; subst e'
    rw [if_pos (List.getElem?_eq_some_iff.1 h).1, h]
  · rfl
theorem stoOK_set {σ : Sto} (h : StoOK σ) {k : Nat} {e : Ent} (he : e.lt (σ.set k e).length) : StoOK (σ.set k e) := by
  intro i e' hi
  rw [List.getElem?_set] at hi
  split at hi
  · split at hi
    · cases hi; exact he
    · cases hi
  · rw [List.length_set]; exact h i e' hi
theorem bld_lt {σ : Sto} {i : Nat} {u : Bool} {s : ByteArray} (h : i < σ.length) : (bld i u s).lt σ.length := by
  cases u <;> exact ⟨h, trivial, trivial⟩

theorem copyCheck_sat (i : Nat) (u : Bool) (s : ByteArray) (σ : Sto) (hi : σ[i]? = some (bld i u s)) : SatCall Try.prog 91 [.ptr i 0] σ fun r σ' => r = .tup [] ∧ σ' = σ.set i (bld i true s) := by
  refine sat_fn tab Try.func91 rfl (Nat.le_of_ble_eq_true rfl) (by decide) fun hso => ?_
  cases u with
  | false =>
    have hi' : σ[i]? = some (.cells [.bnil i 100 2, .sl (.tb 5) 1 (bytesP s)]) := hi
    repeat' (first | (apply og_ops; (first | (apply og_move; (apply op_move (tt := tt); (focus ((conv => lhs; whnf); try exact rfl)); exact rfl)) | (apply og_bin; (apply op_lk; (apply lk_eqNilT tab; exact rfl; exact rfl; (focus ((conv => lhs; whnf); try exact rfl))); (intro c h; cases h); exact rfl)) | (apply og_load; (apply op_lk; (apply lk_loadB tab; exact rfl; exact rfl; (assumption); (focus ((conv => lhs; whnf; arg 1; whnf; arg 2; whnf); try skip)); (exact trivial)); (intro c h; cases h); exact rfl)) | (apply og_fieldAddr; (apply op_lk; (apply lk_fieldAddrB tab; exact rfl; (focus ((conv => lhs; whnf); try exact rfl)); exact rfl; (exact (rfl : _ = 0))); (intro c h; cases h); exact rfl)) | (apply og_nilCheck; (apply op_lk; (apply lk_nilCheck (tt := tt); (focus ((conv => lhs; whnf); try exact rfl))); (intro c h; cases h); exact rfl)) | (apply ops_nil))) | (apply og_sat; (first | (apply sat_seq) | (apply sat_region) | (apply sat_cond_t; exact rfl; (exact rfl)))) | (apply pe_norm))
    refine op_lk (lk_toUnsafe tab rfl rfl (by kernel_rfl) rfl rfl (u := 5) rfl rfl rfl hi') (by intro c h; cases h) rfl ?_
    refine op_lk (lk_noEscape (tt := tt) (p := .tptr i 100 2) Try.func109 rfl rfl rfl rfl rfl rfl) (by intro c h; cases h) rfl ?_
    refine op_lk (lk_fromUnsafe tab (by kernel_rfl) rfl rfl rfl (by kernel_rfl) rfl hi') (by intro c h; cases h) rfl ?_
    repeat' (apply og_ops; (first | (apply og_fieldAddr; (apply op_lk; (apply lk_fieldAddrB tab; exact rfl; (focus ((conv => lhs; whnf); try exact rfl)); exact rfl; (exact (rfl : _ = 0))); (intro c h; cases h); exact rfl)) | (apply og_nilCheck; (apply op_lk; (apply lk_nilCheck (tt := tt); (focus ((conv => lhs; whnf); try exact rfl))); (intro c h; cases h); exact rfl))))
    refine op_storeB tab rfl rfl hi' rfl rfl rfl rfl (Nat.le_of_ble_eq_true rfl) ?_
    repeat' (apply og_ops; (apply ops_nil))
    (change fnPost _ _ _ _ _ _ _; apply fn_end0; (exact .inl rfl); exact rfl)
    exact ⟨rfl, rfl⟩
  | true =>
    have hi' : σ[i]? = some (.cells [.tptr i 100 2, .sl (.tb 5) 1 (bytesP s)]) := hi
    repeat' (first | (apply og_ops; (first | (apply og_move; (apply op_move (tt := tt); (focus ((conv => lhs; whnf); try exact rfl)); exact rfl)) | (apply og_bin; (first | (apply op_lk; (apply lk_eqNilF tab; exact rfl; exact rfl; (focus ((conv => lhs; whnf); try exact rfl))); (intro c h; cases h); exact rfl) | (apply op_lk; (apply lk_neqSelf tab; exact rfl; exact rfl; exact rfl; (focus ((conv => lhs; whnf); try exact rfl)); (focus ((conv => lhs; whnf); try exact rfl))); (intro c h; cases h); exact rfl))) | (apply og_load; (apply op_lk; (apply lk_loadB tab; exact rfl; exact rfl; (assumption); (focus ((conv => lhs; whnf; arg 1; whnf; arg 2; whnf); try skip)); (exact trivial)); (intro c h; cases h); exact rfl)) | (apply og_fieldAddr; (apply op_lk; (apply lk_fieldAddrB tab; exact rfl; (focus ((conv => lhs; whnf); try exact rfl)); exact rfl; (exact (rfl : _ = 0))); (intro c h; cases h); exact rfl)) | (apply og_nilCheck; (apply op_lk; (apply lk_nilCheck (tt := tt); (focus ((conv => lhs; whnf); try exact rfl))); (intro c h; cases h); exact rfl)) | (apply ops_nil))) | (apply og_sat; (first | (apply sat_seq) | (apply sat_region) | (apply sat_cond_f; exact rfl; (exact rfl)) | (apply sat_skip))) | (apply pe_norm))
    (change fnPost _ _ _ _ _ _ _; apply fn_end0; (exact .inl rfl); exact rfl)
    exact ⟨rfl, (set_at hi).symm⟩

theorem writeString_sat (i : Nat) (u : Bool) (s t : ByteArray) (σ : Sto) (hi : σ[i]? = some (bld i u s)) (hfit : s.size + t.size ≤ 70368744177664) :
    SatCall Try.prog 50 [.ptr i 0, .str t] σ fun r σ' => r = .tup [.int .i64 t.size, .nilif] ∧ σ' = σ.set i (bld i true (s ++ t)) := by
  refine sat_fn tab Try.func50 rfl (Nat.le_of_ble_eq_true rfl) (by decide) fun hso => ?_
  have hil : i < σ.length := (List.getElem?_eq_some_iff.1 hi).1
  repeat' (first | (apply og_ops; (first | (apply og_move; (apply op_move (tt := tt); (focus ((conv => lhs; whnf); try exact rfl)); exact rfl)) | (apply og_assign; (apply op_assign (tt := tt); (focus ((conv => lhs; whnf); try exact rfl)); exact rfl)) | (apply ops_nil))) | (apply og_sat; (first | (apply sat_seq) | (apply sat_region))) | (apply pe_norm))
  refine op_callS (tt := tt) cal91 (copyCheck_sat i u s σ hi) rfl rfl rfl rfl rfl ?_
  have hi1 : (σ.set i (bld i true s))[i]? = some (.cells [.tptr i 100 2, .sl (.tb 5) 1 (bytesP s)]) := List.getElem?_set_self hil
  repeat' (first | (apply og_ops; (first | (apply og_move; (apply op_move (tt := tt); (focus ((conv => lhs; whnf); try exact rfl)); exact rfl)) | (apply og_fieldAddr; (apply op_lk; (apply lk_fieldAddrB tab; exact rfl; (focus ((conv => lhs; whnf); try exact rfl)); exact rfl; (exact (rfl : _ = 1))); (intro c h; cases h); exact rfl)) | (apply og_nilCheck; (apply op_lk; (apply lk_nilCheck (tt := tt); (focus ((conv => lhs; whnf); try exact rfl))); (intro c h; cases h); exact rfl)) | (apply ops_nil))) | (apply og_sat; (first | (apply sat_seq) | (apply sat_region))) | (apply pe_norm))
  refine op_loadT tab rfl rfl rfl hi1 rfl rfl (Nat.lt_of_sub_pos (by decide)) ?_
  rw [List.set_set]
  have hi2 : (σ.set i (.cells [.tptr i 100 2, .dead]))[i]? = some (.cells [.tptr i 100 2, .dead]) := List.getElem?_set_self hil
  repeat' (apply og_ops; (first | (apply og_move; (apply op_move (tt := tt); (focus ((conv => lhs; whnf); try exact rfl)); exact rfl)) | (apply og_callb; (apply op_appendTb tab; (focus ((conv => lhs; whnf); try exact rfl)); exact rfl; exact rfl; exact rfl; exact rfl; exact rfl; exact rfl; (focus ((conv => lhs; whnf); try exact rfl)); exact rfl; (assumption); exact rfl)) | (apply og_fieldAddr; (apply op_lk; (apply lk_fieldAddrB tab; exact rfl; (focus ((conv => lhs; whnf); try exact rfl)); exact rfl; (exact (rfl : _ = 1))); (intro c h; cases h); exact rfl)) | (apply og_nilCheck; (apply op_lk; (apply lk_nilCheck (tt := tt); (focus ((conv => lhs; whnf); try exact rfl))); (intro c h; cases h); exact rfl))))
  refine op_storeT tab rfl rfl rfl hi2 rfl rfl (Nat.le_of_ble_eq_true rfl) (by intro h; cases h) ?_
  rw [List.set_set]
  repeat' (first | (apply og_ops; (first | (apply og_move; (apply op_move (tt := tt); (focus ((conv => lhs; whnf); try exact rfl)); exact rfl)) | (apply og_assign; (apply op_assign (tt := tt); (focus ((conv => lhs; whnf); try exact rfl)); exact rfl)) | (apply og_callb; (apply op_len tab; (focus ((conv => lhs; whnf; arg 1; whnf; arg 2; whnf); try exact rfl)); (exact trivial); exact rfl)) | (apply ops_nil))) | (apply og_sat; (first | (apply sat_seq) | (apply sat_region) | (apply sat_ret))) | (apply pe_norm))
  (change fnPost _ _ _ _ _ _ _; apply fn_endN (ex := []); (exact .inr rfl); (focus (repeat' (first | (apply rr_tmp; (focus ((conv => lhs; whnf); try exact rfl)); (exact Wk.same _)) | exact rr_nil))); exact rfl; exact (List.append_nil _).symm; (rw [List.length_set]; exact Nat.le_refl _); (focus (repeat' (first | exact trivial | refine ⟨?_, ?_⟩))))
  · exact stoOK_set hso (by rw [List.length_set]; exact bld_lt (u := true) (s := s ++ t) hil)
  · exact ⟨rfl, rfl⟩

theorem string_sat (i : Nat) (u : Bool) (s : ByteArray) (σ : Sto) (hi : σ[i]? = some (bld i u s)) (h0 : 0 < s.size) (hmax : s.size ≤ 70368744177664) :
    SatCall Try.prog 53 [.ptr i 0] σ fun r σ' => r = .str s ∧ σ' = σ.set i .gone := by
  refine sat_fn tab Try.func53 rfl (Nat.le_of_ble_eq_true rfl) (by decide) fun hso => ?_
  have hil : i < σ.length := (List.getElem?_eq_some_iff.1 hi).1
  refine sat_seal (j := 1) hi rfl h0 fun cap hcap => ?_
  generalize hX : Ent.cells (List.set [if u then PV.tptr i 100 2 else PV.bnil i 100 2, PV.sl (.tb 5) 1 (bytesP s)] 1 (PV.tsl σ.length 5 cap s.size cap)) = X
  have hX' : X = .cells [if u then PV.tptr i 100 2 else PV.bnil i 100 2, PV.tsl σ.length 5 cap s.size cap] := hX.symm
  subst hX'
  have h1 : (σ.set i (.cells [if u then PV.tptr i 100 2 else PV.bnil i 100 2, PV.tsl σ.length 5 cap s.size cap]))[i]? = some (.cells [if u then PV.tptr i 100 2 else PV.bnil i 100 2, PV.tsl σ.length 5 cap s.size cap]) := List.getElem?_set_self hil
  have h2 : (σ.set i (.cells [if u then PV.tptr i 100 2 else PV.bnil i 100 2, PV.tsl σ.length 5 cap s.size cap]) ++ [.cells (bytesP s)])[σ.length]? = some (.cells (bytesP s)) := by
    rw [List.getElem?_append_right (by rw [List.length_set]; exact Nat.le_refl _), List.length_set, Nat.sub_self]; rfl
  have hn0 : Nat.beq s.size 0 = false := by cases hb : Nat.beq s.size 0 with
    | false => rfl
    | true => have := Nat.eq_of_beq_eq_true hb; omega
  repeat' (first | (apply og_ops; (first | (apply og_assign; (apply op_assign (tt := tt); (focus ((conv => lhs; whnf); try exact rfl)); exact rfl)) | (apply ops_nil))) | (apply og_sat; (first | (apply sat_seq) | (apply sat_region) | (apply sat_drawC (k := 10); exact mixed; decide +kernel; decide +kernel))) | (apply pe_norm) | (apply og_dd; (first | (apply dd_lk; (first | (apply lg_move; (apply lk_move (tt := tt); (focus ((conv => lhs; whnf); try exact rfl)))) | (apply lg_fieldAddr; (apply lk_fieldAddrB tab; exact rfl; (focus ((conv => lhs; whnf); try exact rfl)); exact rfl; (exact (rfl : _ = 1)))) | (apply lg_load; (apply lk_loadB tab; exact rfl; exact rfl; (exact getL (by assumption)); (focus ((conv => lhs; whnf; arg 1; whnf; arg 2; whnf); try skip)); (exact trivial))) | (apply lg_callb; (first | (apply lk_lenT tab; exact rfl; exact rfl; (focus ((conv => lhs; whnf); try exact rfl))) | (apply lk_sliceData (tt := tt); (focus ((conv => lhs; whnf); try exact rfl)); (assumption); (assumption)))) | (apply lg_nilCheck; (apply lk_nilCheck (tt := tt); (focus ((conv => lhs; whnf); try exact rfl))))); exact rfl; exact rfl) | (apply dd_nil))))
  refine op_unsafeString (tt := tt) rfl rfl h2 (by kernel_rfl) (by kernel_rfl) h0 hmax rfl ?_
  refine ops_gone i (ops_sto (σ' := σ.set i .gone ++ [.gone]) ?_ ?_)
  · have hls : ∀ e : Ent, (σ.set i e).length = σ.length := fun e => List.length_set
    rw [List.set_append_right _ _ (by rw [hls]; exact Nat.le_refl _), hls, Nat.sub_self]
    rw [List.set_append_left _ _ (by rw [hls]; exact hil), List.set_set]
    rfl
  repeat' (first | (apply og_ops; (first | (apply og_assign; (apply op_assign (tt := tt); (focus ((conv => lhs; whnf); try exact rfl)); exact rfl)) | (apply ops_nil))) | (apply og_sat; (apply sat_ret)) | (apply pe_norm))
  (change fnPost _ _ _ _ _ _ _; apply fn_endN; (exact .inr rfl); (focus (repeat' (first | (apply rr_tmp; (focus ((conv => lhs; whnf); try exact rfl)); (exact Wk.same _)) | exact rr_nil))); exact rfl; (exact rfl); (rw [List.length_set]; exact Nat.le_refl _); (focus (repeat' (first | exact trivial | refine ⟨?_, ?_⟩))); exact stoOK_gone hso _)
  exact ⟨rfl, rfl⟩

end Go.Proofs.Ytbjmafbbjhoddaa.Pv
