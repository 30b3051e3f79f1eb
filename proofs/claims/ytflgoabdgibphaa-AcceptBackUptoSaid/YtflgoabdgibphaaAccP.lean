/- AcceptBytes. -/
import Derived.Test.YtflgoabdgibphaaAccD
import Derived.Test.YtflgoabdgibphaaAccG
import Derived.Test.YtflgoabdgibphaaAccM
import Derived.Test.YtflgoabdgibphaaAccO
namespace Go.Proofs.Ytflgoabdgibphaa.Pv
open Go
set_option linter.unusedVariables false
set_option linter.unusedSimpArgs false
set_option maxRecDepth 100000

theorem takeVs_len : ∀ (n : Nat) (s : ByteArray) (acc : List Vt) {l : List Vt} {r : ByteArray}, takeVs n s acc = some (l, r) → l.length = acc.length + n
  | 0, s, acc, l, r, h => by cases h; rfl
  | n + 1, s, acc, l, r, h => by
    rw [takeVs] at h
    split at h
    · cases h
    · have := takeVs_len n _ _ h
      rw [List.length_append, List.length_singleton] at this; omega
theorem takeA_some {s : ByteArray} {b : Acp} (h : takeA s = some b) : b.2.length ≤ 65536 ∧ rightP b = true := by
  unfold takeA at h
  split at h
  · cases h
  rename_i h0
  split at h
  · cases h
  rename_i l r hl
  split at h
  · rename_i hr
    cases h
    have := takeVs_len _ _ _ hl
    have h1 : ¬ 65536 < (takeN (takeN s).2.1).1 := fun e => h0 (.inr (.inr e))
    exact ⟨by simp at this; simp; omega, hr.2⟩
  · cases h

set_option maxHeartbeats 4000000 in
theorem acceptBytes_sat (a : Acp) (s : ByteArray) (ha : AcOK a) (hs : s.size ≤ 9223372036854775807) (σ : Sto) :
    SatCall Try.prog 6 [acp a, .str s] σ fun x σ' => x = .bool true ∧ σ' = σ := by
  refine sat_fn tab Try.func6 rfl (Nat.le_of_ble_eq_true rfl) (by decide) fun hso => sat_base ?_
  have b1 := bytes_sat a ha
  have b2 := refBytes_sat a ha
  have t1 := take_sat s hs
  have t2 := refTake_sat s hs
  obtain ⟨X, e, hX⟩ : ∃ (X : ByteArray) (e : Int), (if rightP a then PV.tup [.str (accB a), .int .i64 0] else .tup [.str ⟨#[]⟩, .int .i64 1]) = .tup [.str X, .int .i64 e] := by
    cases rightP a
    · exact ⟨_, _, rfl⟩
    · exact ⟨_, _, rfl⟩
  rw [hX] at b1 b2
  obtain ⟨b, g, hb, hbl⟩ : ∃ (b : Acp) (g : Int), acpOut (takeA s) = .tup [acp b, .int .i64 g] ∧ b.2.length ≤ 1048576 := by
    cases h : takeA s with
    | none => exact ⟨_, _, rfl, Nat.zero_le _⟩
    | some b => exact ⟨b, 0, rfl, by have := (takeA_some h).1; omega⟩
  rw [hb] at t1 t2
  have hq := refSame_sat b b hbl
  rw [decide_eq_true rfl] at hq
  have d1 : beqS X X = true := beqS_iff.2 rfl
  have d2 : (e == e) = true := beq_self_eq_true e
  have d3 : (g == g) = true := beq_self_eq_true g
  clear hX hb
  repeat' (first | (apply og_ops; (first | (apply og_guard; (apply ops_guard_t; exact (rfl : _ = some _); exact (rfl : _ = PV.bool _); (first | exact rfl | assumption))) | (apply og_move; (apply op_move (tt := tt); (focus ((conv => lhs; whnf); try exact rfl)); exact rfl)) | (apply og_assign; (apply op_assign (tt := tt); (focus ((conv => lhs; whnf); try exact rfl)); exact rfl)) | (apply og_callv; (first | (refine op_callP (tt := tt) cal8 (shown_sat _) rfl rfl rfl rfl rfl ?_) | (refine op_callP (tt := tt) cal18 (b1 _) rfl rfl rfl rfl rfl ?_) | (refine op_callP (tt := tt) cal19 (b2 _) rfl rfl rfl rfl rfl ?_) | (refine op_callP (tt := tt) cal20 (t1 _) rfl rfl rfl rfl rfl ?_) | (refine op_callP (tt := tt) cal21 (t2 _) rfl rfl rfl rfl rfl ?_) | (refine op_callP (tt := tt) cal14 (hq _) rfl rfl rfl rfl rfl ?_))) | (apply og_bin; (apply op_bin true tab; (focus ((conv => lhs; whnf; arg 1; whnf; arg 2; whnf); try exact rfl)); (exact trivial); exact rfl)) | (apply og_pick; (apply op_pick (tt := tt); exact (rfl : _ = PV.bool _); (first | refine .inl ⟨rfl, ?_⟩ | refine .inl ⟨by assumption, ?_⟩); (focus ((conv => lhs; whnf); try exact rfl)); exact ltn rfl)) | (apply og_load; (apply op_lk; (apply lk_loadX tab; exact rfl; exact rfl; exact rfl; (focus ((conv => lhs; whnf; arg 1; whnf; arg 2; whnf); try skip)); (exact Nat.le_of_ble_eq_true rfl)); (intro c h; cases h); exact rfl)) | (apply og_extract; (apply op_extract (tt := tt); (focus ((conv => lhs; whnf; arg 1; whnf; arg 2; whnf); try exact rfl)); (exact trivial); exact rfl)) | (apply og_store; (apply op_storeX tab; exact rfl; exact rfl; exact rfl; exact rfl; exact rfl; exact rfl; exact rfl; exact rfl)) | (apply og_alloc; (apply op_allocX tab; exact rfl; exact rfl; (first | exact (rfl : _ = 1) | exact (rfl : _ = 2)); exact rfl)) | (apply og_box; (apply op_boxX (tt := tt); (focus ((conv => lhs; whnf); try exact rfl)); exact rfl; (exact (rfl : _ = 0)); exact rfl)) | (apply ops_nil))) | (apply og_sat; (first | (apply sat_seq) | (apply sat_region) | (apply sat_ret))) | (apply pe_norm))
  (change fnPost _ _ _ _ _ _ _; apply fn_endN; (exact .inr rfl); (focus (repeat' (first | (apply rr_tmp; (focus ((conv => lhs; whnf); try exact rfl)); (exact Wk.same _)) | exact rr_nil))); exact rfl; (exact rfl); exact Nat.le_refl _; (focus (repeat' (first | exact trivial | refine ⟨?_, ?_⟩))); exact hso)
  refine ⟨?_, rfl⟩
  show PV.bool _ = PV.bool _
  rw [d3]

abbrev shVt : Shp := .struct [.int .i64, .int .u64, .str]
abbrev shAc : Shp := .struct [.int .u64, .sl 3 shVt]
theorem wf_u64 {n : Int} (h : (Lit.int .u64 n).wf = true) : 0 ≤ n ∧ n < 18446744073709551616 := by
  simp only [Lit.wf, Bool.and_eq_true, decide_eq_true_eq] at h
  have h1 : IntKind.u64.min = 0 := rfl
  have h2 : IntKind.u64.max = 18446744073709551615 := rfl
  omega
theorem dec_ac (c : List PV) (h : HasC shAc c) : ∃ a : Acp, mkV shAc c = acp a ∧ (0 ≤ a.1 ∧ a.1 < 18446744073709551616) ∧ ∀ v ∈ a.2, 0 ≤ v.2.1 ∧ v.2.1 < 18446744073709551616 := by
  obtain ⟨_, _, rfl, ⟨p, hp, rfl⟩, _, _, rfl, ⟨es, rfl, _, he⟩, rfl⟩ := h
  obtain ⟨l, rfl, hl⟩ := elems_of vt (fun v => 0 ≤ v.2.1 ∧ v.2.1 < 18446744073709551616) (fun c hc => by
    obtain ⟨_, _, rfl, ⟨a, _, rfl⟩, _, _, rfl, ⟨b, hb, rfl⟩, _, _, rfl, ⟨s, _, rfl⟩, rfl⟩ := hc
    exact ⟨(a, b, s), rfl, wf_u64 hb⟩) he
  exact ⟨(p, l), rfl, wf_u64 hp, hl⟩
theorem acOK_of {a : Acp} (hw : (acp a).wt ≤ 1048576) (h1 : 0 ≤ a.1 ∧ a.1 < 18446744073709551616) (h2 : ∀ v ∈ a.2, 0 ≤ v.2.1 ∧ v.2.1 < 18446744073709551616) : AcOK a := by
  have := wt_vt a.2
  simp only [acp, PV.wt, wtAll] at hw
  exact ⟨by omega, h1.1, h1.2, h2⟩

theorem acceptBytesUpto_law (c0 : List PV) (h0 : HasC shAc c0) (c1 : List PV) (h1 : HasC .str c1) (hw : (mkV shAc c0).wt + (mkV .str c1).wt ≤ 1048576) :
    SatCall Try.prog 6 [mkV shAc c0, mkV .str c1] [] fun r _ => r = .bool true := by
  obtain ⟨a, e, h2, h3⟩ := dec_ac c0 h0
  obtain ⟨s, hs, rfl⟩ := h1
  rw [e] at hw ⊢
  exact (acceptBytes_sat a s (acOK_of (by omega) h2 h3) (by have : (PV.str s).wt ≤ 1048576 := by simp only [mkV] at hw; omega
                                                            simp only [PV.wt] at this; omega) []).mono fun _ _ h => h.1

end Go.Proofs.Ytflgoabdgibphaa.Pv
