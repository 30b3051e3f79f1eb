/- A command's bytes, by the program. -/
import Derived.Test.YtbjmafbbjhoddaaLibByt
namespace Go.Proofs.Ytbjmafbbjhoddaa.Pv
open Go
set_option linter.unusedVariables false
set_option linter.unusedSimpArgs false
set_option maxRecDepth 100000

def cmH (c : Cm) : ByteArray := numsTo ⟨#[]⟩ [c.kind, c.client, c.seq]
def cmN (c : Cm) : List Int := [c.vol, c.off, c.n, c.sum, c.region, c.mate, c.idx, c.places.length]
def cmS (c : Cm) (i : Nat) : ByteArray := (c.places.take i).foldl (fun s p => numsTo s [p.1, p.2]) (numsTo (cmH c ++ textB c.name) (cmN c))
def cmB (c : Cm) : ByteArray := cmS c c.places.length
structure CmOK (c : Cm) : Prop where
  places : c.places.length ≤ 1048576
  name : c.name.size ≤ 1048576
  s0 : 0 ≤ c.sum
  s1 : c.sum < 4294967296

theorem cmS_step {c : Cm} {i : Nat} (h : i < c.places.length) : cmS c (i + 1) = numsTo (cmS c i) [(c.places.getD i default).1, (c.places.getD i default).2] := by
  unfold cmS
  rw [List.take_succ_eq_append_getElem h, List.foldl_append, List.getD_eq_getElem?_getD, List.getElem?_eq_getElem h]; rfl
theorem mayC_num {c : Cm} (h : mayC c = true) : ((1 ≤ c.kind ∧ c.kind ≤ 9) ∧ (0 ≤ c.client ∧ c.client ≤ 16) ∧ (0 ≤ c.seq ∧ c.seq ≤ 1073741824) ∧ c.name.size ≤ 16 ∧ c.places.length ≤ 14) ∧
    (0 ≤ c.vol ∧ c.vol ≤ 1048576) ∧ (0 ≤ c.off ∧ c.off ≤ 1048576) ∧ (0 ≤ c.n ∧ c.n ≤ 1048576) ∧ (0 ≤ c.region ∧ c.region ≤ 1048576) ∧ (0 ≤ c.mate ∧ c.mate ≤ 1048576) ∧ (0 ≤ c.idx ∧ c.idx ≤ 1048576) ∧
    ∀ p ∈ c.places, (1 ≤ p.1 ∧ p.1 ≤ 3) ∧ (0 ≤ p.2 ∧ p.2 ≤ 63) := by
  simp only [mayC, Bool.and_eq_true, headC, smallP, decide_eq_true_eq, List.all_eq_true, okPl] at h
  obtain ⟨⟨h1, ⟨⟨h2, h3⟩, h4⟩, ⟨⟨h5, h6⟩, h7⟩⟩, h8⟩ := h
  exact ⟨h1, h2, h3, h4, h5, h6, h7, h8⟩
theorem cmH_size {c : Cm} (hm : mayC c = true) : 1 ≤ (cmH c).size ∧ (cmH c).size ≤ 30 := by
  obtain ⟨h1, _⟩ := mayC_num hm
  refine ⟨?_, ?_⟩
  · have := numB_pos (v := c.seq.toNat) (by omega)
    simp only [cmH, numsTo, List.foldl_cons, List.foldl_nil, size_app]; omega
  · have := numsTo_size ⟨#[]⟩ [c.kind, c.client, c.seq] (by intro z hz; simp at hz; rcases hz with rfl | rfl | rfl <;> omega)
    exact this
theorem cmT_size {c : Cm} (hm : mayC c = true) : 1 ≤ (cmH c ++ textB c.name).size ∧ (cmH c ++ textB c.name).size ≤ 60 := by
  obtain ⟨h1, _⟩ := mayC_num hm
  have h2 := cmH_size hm
  have h3 := numB_size (v := c.name.size) (by omega)
  simp only [textB, size_app]; omega
theorem cmN_ok {c : Cm} (hc : CmOK c) (hm : mayC c = true) : ∀ z ∈ cmN c, 0 ≤ z ∧ z < 9223372036854775808 := by
  obtain ⟨h1, h2, h3, h4, h5, h6, h7, _⟩ := mayC_num hm
  have := hc.s0; have := hc.s1
  intro z hz
  simp only [cmN, List.mem_cons, List.not_mem_nil, or_false] at hz
  rcases hz with rfl | rfl | rfl | rfl | rfl | rfl | rfl | rfl <;> omega
theorem cmS_size {c : Cm} (hc : CmOK c) (hm : mayC c = true) : ∀ i, i ≤ c.places.length → 1 ≤ (cmS c i).size ∧ (cmS c i).size ≤ 140 + i * 20
  | 0, _ => by
    have h1 := cmT_size hm
    have h2 := numsTo_size (cmH c ++ textB c.name) (cmN c) fun z hz => by have := cmN_ok hc hm z hz; omega
    have h3 : (cmH c ++ textB c.name).size ≤ (numsTo (cmH c ++ textB c.name) (cmN c)).size := by
      simp only [numsTo, cmN, List.foldl_cons, List.foldl_nil, size_app]; omega
    simp only [cmS, List.take_zero, List.foldl_nil]
    simp only [cmN, List.length_cons, List.length_nil] at h2
    have e : (numsTo (cmH c ++ textB c.name) (cmN c)).size ≤ (cmH c ++ textB c.name).size + 80 := h2
    omega
  | i + 1, h => by
    obtain ⟨k1, k2⟩ := cmS_size hc hm i (by omega)
    obtain ⟨_, _, _, _, _, _, _, h8⟩ := mayC_num hm
    have h9 := h8 _ (getD_memL (xs := c.places) (i := i) (by omega))
    have := numsTo_size (cmS c i) [(c.places.getD i default).1, (c.places.getD i default).2] (by intro z hz; simp only [List.mem_cons, List.not_mem_nil, or_false] at hz; rcases hz with rfl | rfl <;> omega)
    have h10 : (cmS c i).size ≤ (numsTo (cmS c i) [(c.places.getD i default).1, (c.places.getD i default).2]).size := by
      simp only [numsTo, List.foldl_cons, List.foldl_nil, size_app]; omega
    rw [cmS_step (by omega)]
    simp only [List.length_cons, List.length_nil] at this
    omega

set_option maxHeartbeats 4000000 in
theorem bytesI_sat (c : Cm) (hc : CmOK c) (σ : Sto) : SatCall Try.prog 27 [cm c] σ fun x σ' => x = (if mayC c then .tup [.str (cmB c), .int .i64 0] else .tup [.str ⟨#[]⟩, .int .i64 1]) ∧ σ' = σ := by
  refine sat_fn tab Try.func27 rfl (Nat.le_of_ble_eq_true rfl) (by decide) fun hso => sat_base ?_
  have hm := mayI_sat c hc.places hc.name
  by_cases hM : mayC c = true
  · rw [hM] at hm
    rw [if_pos hM]
    obtain ⟨k1, k2, k3, k4, k5, k6, k7, k8⟩ := mayC_num hM
    have hs0 := hc.s0
    have hs1 := hc.s1
    have z1 := cmH_size hM
    have z2 := cmT_size hM
    have z3 := cmS_size hc hM 0 (Nat.zero_le _)
    have zt := numB_size (v := c.name.size) (by omega)
    have n3 := text_sat c.name (by omega)
    have ht : (cmH c).size + (textB c.name).size ≤ 70368744177664 := by rw [size_app] at z2; omega
    repeat' (first | (apply og_ops; (first | (apply og_move; (apply op_move (tt := tt); (focus ((conv => lhs; whnf); try exact rfl)); exact rfl)) | (apply og_assign; (apply op_assign (tt := tt); (focus ((conv => lhs; whnf); try exact rfl)); exact rfl)) | (apply og_callv; (refine op_callP (tt := tt) cal33 (hm _) rfl rfl rfl rfl rfl ?_)) | (apply og_load; (apply op_lk; (apply lk_loadX tab; exact rfl; exact rfl; exact rfl; (focus ((conv => lhs; whnf; arg 1; whnf; arg 2; whnf); try skip)); (first | exact trivial | exact Nat.le_of_ble_eq_true rfl)); (intro c h; cases h); exact rfl)) | (apply og_fieldAddr; (apply op_lk; (apply lk_fieldAddrB tab; exact rfl; (focus ((conv => lhs; whnf); try exact rfl)); exact rfl; (first | exact (rfl : _ = 0) | exact (rfl : _ = 1) | exact (rfl : _ = 2))); (intro c h; cases h); exact rfl)) | (apply og_un; (apply op_un (tt := tt) true; (focus ((conv => lhs; whnf; arg 1; whnf; arg 2; whnf); try exact rfl)); (exact trivial); exact rfl)) | (apply og_buildSlice; (apply op_buildSliceX .ow tab; exact rfl; (focus ((repeat (apply opvs_cons; (focus ((conv => lhs; whnf); try exact rfl)))); exact opvs_nil)); exact rfl; exact rfl; exact rfl; exact rfl; exact rfl; exact rfl)) | (apply og_makeFunc; (apply op_lk; (apply lk_makeFunc (tt := tt); exact rfl; exact rfl; (focus ((conv => lhs; whnf); try exact rfl))); (intro c h; cases h); exact rfl)) | (apply og_alloc; (apply op_allocTb 5 tab; exact rfl; exact rfl; exact rfl; exact rfl)) | (apply og_box; (apply op_boxX (tt := tt); (focus ((conv => lhs; whnf); try exact rfl)); exact rfl; (exact (rfl : _ = 0)); exact rfl)) | (apply ops_nil))) | (apply og_sat; (first | (apply sat_seq) | (apply sat_region) | (apply sat_cond_f; exact rfl; (exact rfl)) | (apply sat_skip))) | (apply pe_norm))
    have hw := bytesI1_sat [c.kind, c.client, c.seq] (by intro z hz; simp only [List.mem_cons, List.not_mem_nil, or_false] at hz; rcases hz with rfl | rfl | rfl <;> omega) (by simp) (by simp) (σ.length + 1) false ⟨#[]⟩ (σ ++ [.cells (cm c).cells, bld (σ.length + 1) false ⟨#[]⟩]) (getX 1) (by show 0 + 10 * 3 ≤ _; omega)
    rw [setX] at hw
    refine op_callC (tt := tt) (σ' := σ ++ [.cells (cm c).cells, bld (σ.length + 1) true (cmH c)]) cal49 hw rfl rfl rfl rfl rfl ?_
    clear hw
    repeat' (first | (apply og_ops; (first | (apply og_callv; (refine op_callP (tt := tt) cal52 (n3 _) rfl rfl rfl rfl rfl ?_)) | (apply og_load; (apply op_lk; (apply lk_loadX tab; exact rfl; exact rfl; exact rfl; (focus ((conv => lhs; whnf; arg 1; whnf; arg 2; whnf); try skip)); (exact trivial)); (intro c h; cases h); exact rfl)) | (apply og_fieldAddr; (apply op_lk; (apply lk_fieldAddrB tab; exact rfl; (focus ((conv => lhs; whnf); try exact rfl)); exact rfl; (exact (rfl : _ = 3))); (intro c h; cases h); exact rfl)) | (apply ops_nil))) | (apply og_sat; (first | (apply sat_seq) | (apply sat_region))) | (apply pe_norm))
    have hw := writeString_sat (σ.length + 1) true (cmH c) (textB c.name) (σ ++ [.cells (cm c).cells, bld (σ.length + 1) true (cmH c)]) (getX 1) ht
    rw [setX] at hw
    refine op_callS (tt := tt) (σ' := σ ++ [.cells (cm c).cells, bld (σ.length + 1) true (cmH c ++ textB c.name)]) cal50 hw rfl rfl rfl rfl rfl ?_
    clear hw n3
    repeat' (first | (apply og_ops; (first | (apply og_move; (apply op_move (tt := tt); (focus ((conv => lhs; whnf); try exact rfl)); exact rfl)) | (apply og_load; (apply op_lk; (apply lk_loadX tab; exact rfl; exact rfl; exact rfl; (focus ((conv => lhs; whnf; arg 1; whnf; arg 2; whnf); try skip)); (exact trivial)); (intro c h; cases h); exact rfl)) | (apply og_callb; (apply op_len tab; (focus ((conv => lhs; whnf; arg 1; whnf; arg 2; whnf); try exact rfl)); (exact trivial); exact rfl)) | (apply og_fieldAddr; (apply op_lk; (apply lk_fieldAddrB tab; exact rfl; (focus ((conv => lhs; whnf); try exact rfl)); exact rfl; (first | exact (rfl : _ = 4) | exact (rfl : _ = 5) | exact (rfl : _ = 6) | exact (rfl : _ = 7) | exact (rfl : _ = 8) | exact (rfl : _ = 9) | exact (rfl : _ = 10) | exact (rfl : _ = 11))); (intro c h; cases h); exact rfl)) | (apply og_conv; (apply op_conv true tab; (focus ((conv => lhs; whnf; arg 1; whnf; arg 2; whnf); try exact rfl)); (simp only [InR]; omega); exact rfl)) | (apply og_buildSlice; (apply op_buildSliceX .ow tab; exact rfl; (focus ((repeat (apply opvs_cons; (focus ((conv => lhs; whnf); try exact rfl)))); exact opvs_nil)); exact rfl; exact rfl; exact rfl; exact rfl; exact rfl; exact rfl)) | (apply ops_nil))) | (apply og_sat; (first | (apply sat_seq) | (apply sat_region))) | (apply pe_norm))
    have hw := bytesI1_sat (cmN c) (cmN_ok hc hM) (by simp [cmN]) (by simp [cmN]) (σ.length + 1) true (cmH c ++ textB c.name) (σ ++ [.cells (cm c).cells, bld (σ.length + 1) true (cmH c ++ textB c.name)]) (getX 1) (by show _ + 10 * 8 ≤ _; omega)
    rw [setX] at hw
    have e : (cmN c).map vi = [.int .i64 c.vol, .int .i64 c.off, .int .i64 c.n, .int .i64 c.sum, .int .i64 c.region, .int .i64 c.mate, .int .i64 c.idx, .int .i64 ((c.places.map plc).length : Nat)] := by simp [cmN, vi]
    rw [e] at hw
    refine op_callC (tt := tt) (σ' := σ ++ [.cells (cm c).cells, bld (σ.length + 1) true (cmS c 0)]) cal49 hw rfl rfl rfl rfl rfl ?_
    clear hw
    have hl := hc.places
    repeat' (first | (apply og_ops; (first | (apply og_move; (apply op_move (tt := tt); (focus ((conv => lhs; whnf); try exact rfl)); exact rfl)) | (apply og_load; (apply op_lk; (apply lk_loadX tab; exact rfl; exact rfl; exact rfl; (focus ((conv => lhs; whnf; arg 1; whnf; arg 2; whnf); try skip)); (exact trivial)); (intro c h; cases h); exact rfl)) | (apply og_callb; (apply op_len tab; (focus ((conv => lhs; whnf; arg 1; whnf; arg 2; whnf); try exact rfl)); (exact trivial); exact rfl)) | (apply og_fieldAddr; (apply op_lk; (apply lk_fieldAddrB tab; exact rfl; (focus ((conv => lhs; whnf); try exact rfl)); exact rfl; (exact (rfl : _ = 11))); (intro c h; cases h); exact rfl)) | (apply ops_nil))) | (apply og_sat; (first | (apply sat_seq) | (apply sat_region) | (apply sat_block))) | (apply pe_norm))
    refine sat_loopD (fun i : Nat => [(4, .ptr (σ.length + 1) 0), (5, .fn (.func 49) [] [.ptr (σ.length + 1) 0]), (47, .sl .sh 2 (c.places.map plc)), (48, .int .i64 c.places.length), (49, .int .i64 i)]) (fun i => σ ++ [.cells (cm c).cells, bld (σ.length + 1) true (cmS c i)]) (fun i => i ≤ c.places.length) (fun i => c.places.length - i) 0 (Nat.zero_le _) ?_ rfl ?_
    · rw [← List.length_map (f := plc)]
      (repeat' (first | exact trivial | exact Wk.same _ | refine ⟨?_, ?_⟩))
    rintro i hi
    obtain ⟨y1, y2⟩ := cmS_size hc hM i hi
    rcases Nat.lt_or_ge i c.places.length with hlt | hge
    · have c1 : decide ((i : Int) < (c.places.length : Int)) = true := decide_eq_true (by omega)
      have hst : cmS c (i + 1) = numsTo (cmS c i) [(c.places.getD ((i : Nat) : Int).toNat default).1, (c.places.getD ((i : Nat) : Int).toNat default).2] := by rw [cmS_step hlt, Int.toNat_natCast]
      have h9 := k8 _ (getD_memL (xs := c.places) (i := ((i : Nat) : Int).toNat) (by rw [Int.toNat_natCast]; exact hlt))
      repeat' (first | (apply og_ops; (first | (apply og_move; (apply op_move (tt := tt); (focus ((conv => lhs; whnf); try exact rfl)); exact rfl)) | (apply og_bin; (apply op_bin true tab; (focus ((conv => lhs; whnf; arg 1; whnf; arg 2; whnf); try exact rfl)); (exact trivial); exact rfl)) | (apply og_load; (first | (apply op_lk; (apply lk_loadX tab; exact rfl; exact rfl; exact rfl; (focus ((conv => lhs; whnf; arg 1; whnf; arg 2; whnf); try skip)); (exact trivial)); (intro c h; cases h); exact rfl) | (apply op_load tab; (focus ((conv => lhs; whnf; arg 1; whnf; arg 2; whnf); try skip)); (exact Nat.le_of_ble_eq_true rfl); exact rfl))) | (apply og_indexAddr; (refine op_indexMap (tI := 3) _ tab rfl (by (focus ((conv => lhs; whnf); try exact rfl))) (by (focus ((conv => lhs; whnf); try exact rfl))) rfl (by (omega)) (by (omega)) (by (focus ((conv => lhs; whnf); try exact rfl))) (ltn rfl) ?_)) | (apply og_fieldAddr; (apply op_lk; (apply lk_fieldAddrB tab; exact rfl; (focus ((conv => lhs; whnf); try exact rfl)); exact rfl; (first | exact (rfl : _ = 0) | exact (rfl : _ = 1))); (intro c h; cases h); exact rfl)) | (apply og_store; (apply op_storeX tab; exact rfl; exact rfl; exact rfl; exact rfl; exact rfl; exact rfl; exact rfl; exact rfl)) | (apply og_buildSlice; (apply op_buildSliceX .ow tab; exact rfl; (focus ((repeat (apply opvs_cons; (focus ((conv => lhs; whnf); try exact rfl)))); exact opvs_nil)); exact rfl; exact rfl; exact rfl; exact rfl; exact rfl; exact rfl)) | (apply og_alloc; (apply op_allocX tab; exact rfl; exact rfl; (exact (rfl : _ = 2)); exact rfl)) | (apply ops_nil))) | (apply og_sat; (first | (apply sat_seq) | (apply sat_region) | (apply sat_cond_t; exact rfl; (assumption)) | (apply sat_skip) | (apply sat_block))) | (apply pe_norm))
      refine ops_sto (σ' := σ ++ [.cells (cm c).cells, bld (σ.length + 1) true (cmS c i), .cells (plc (c.places.getD ((i : Nat) : Int).toNat default)).cells]) rfl ?_
      have hw := bytesI1_sat [(c.places.getD ((i : Nat) : Int).toNat default).1, (c.places.getD ((i : Nat) : Int).toNat default).2] (by intro z hz; simp only [List.mem_cons, List.not_mem_nil, or_false] at hz; rcases hz with rfl | rfl <;> omega) (by simp) (by simp) (σ.length + 1) true (cmS c i) (σ ++ [.cells (cm c).cells, bld (σ.length + 1) true (cmS c i), .cells (plc (c.places.getD ((i : Nat) : Int).toNat default)).cells]) (getX 1) (by show _ + 10 * 2 ≤ _; omega)
      rw [setX, ← hst] at hw
      refine op_callC (tt := tt) (σ' := σ ++ [.cells (cm c).cells, bld (σ.length + 1) true (cmS c (i + 1)), .cells (plc (c.places.getD ((i : Nat) : Int).toNat default)).cells]) cal49 hw rfl rfl rfl rfl rfl ?_
      clear hw
      repeat' (first | (apply og_ops; (first | (apply og_move; (apply op_move (tt := tt); (focus ((conv => lhs; whnf); try exact rfl)); exact rfl)) | (apply og_bin; (apply op_bin true tab; (focus ((conv => lhs; whnf; arg 1; whnf; arg 2; whnf); try exact rfl)); (simp only [InR]; omega); exact rfl)) | (apply ops_nil))) | (apply og_sat; (apply sat_region)) | (apply pe_norm) | (apply pb_norm))
      refine ⟨i + 1, by omega, by omega, ?_, ?_⟩
      · (repeat' (first | exact trivial | exact Wk.same _ | refine ⟨?_, ?_⟩))
      · exact loopD_end 2 rfl (by simp) (stoOK_app hso (by simp [Ent.lt, ltAll, PV.lt, PV.cells, cm, plc, bld, ltAll])) (envL_lt (by simp [PV.lt, cm, plc, bld, ltAll]))
    · have c1 : decide ((i : Int) < (c.places.length : Int)) = false := decide_eq_false (by omega)
      have hii : i = c.places.length := by omega
      subst hii
      have hs := string_sat (σ.length + 1) true (cmB c) (σ ++ [.cells (cm c).cells, bld (σ.length + 1) true (cmB c)]) (getX 1) (by show 0 < (cmS c _).size; omega) (by show (cmS c _).size ≤ _; omega)
      rw [setX] at hs
      repeat' (first | (apply og_ops; (first | (apply og_bin; (apply op_bin true tab; (focus ((conv => lhs; whnf; arg 1; whnf; arg 2; whnf); try exact rfl)); (exact trivial); exact rfl)) | (apply ops_nil))) | (apply og_sat; (first | (apply sat_seq) | (apply sat_region) | (apply sat_cond_f; exact rfl; (assumption)) | (apply sat_exit))) | (apply pe_norm) | (apply pe_exit) | (apply pb_same))
      refine op_callS (tt := tt) cal53 hs rfl rfl rfl rfl rfl ?_
      repeat' (first | (apply og_ops; (first | (apply og_assign; (apply op_assign (tt := tt); (focus ((conv => lhs; whnf); try exact rfl)); exact rfl)) | (apply ops_nil))) | (apply og_sat; (apply sat_ret)) | (apply pe_norm))
      (change fnPost _ _ _ _ _ _ _; apply fn_endN; (exact .inr rfl); (focus (repeat' (first | (apply rr_tmp; (focus ((conv => lhs; whnf); try exact rfl)); (exact Wk.same _)) | exact rr_nil))); exact rfl; (exact rfl); exact Nat.le_refl _; (focus (repeat' (first | exact trivial | refine ⟨?_, ?_⟩))); exact hso)
      exact ⟨rfl, rfl⟩
  · have hM' : mayC c = false := by simpa using hM
    rw [hM'] at hm
    rw [if_neg hM]
    repeat' (first | (apply og_ops; (first | (apply og_assign; (apply op_assign (tt := tt); (focus ((conv => lhs; whnf); try exact rfl)); exact rfl)) | (apply og_callv; (refine op_callP (tt := tt) cal33 (hm _) rfl rfl rfl rfl rfl ?_)) | (apply og_load; (apply op_lk; (apply lk_loadX tab; exact rfl; exact rfl; exact rfl; (focus ((conv => lhs; whnf; arg 1; whnf; arg 2; whnf); try skip)); (exact Nat.le_of_ble_eq_true rfl)); (intro c h; cases h); exact rfl)) | (apply og_un; (apply op_un (tt := tt) true; (focus ((conv => lhs; whnf; arg 1; whnf; arg 2; whnf); try exact rfl)); (exact trivial); exact rfl)) | (apply og_box; (apply op_boxX (tt := tt); (focus ((conv => lhs; whnf); try exact rfl)); exact rfl; (exact (rfl : _ = 0)); exact rfl)) | (apply ops_nil))) | (apply og_sat; (first | (apply sat_seq) | (apply sat_region) | (apply sat_cond_t; exact rfl; (exact rfl)) | (apply sat_ret))) | (apply pe_norm) | (apply pe_ret))
    (change fnPost _ _ _ _ _ _ _; apply fn_endN; (exact .inr rfl); (focus (repeat' (first | (apply rr_tmp; (focus ((conv => lhs; whnf); try exact rfl)); (exact Wk.same _)) | exact rr_nil))); exact rfl; (exact rfl); exact Nat.le_refl _; (focus (repeat' (first | exact trivial | refine ⟨?_, ?_⟩))); exact hso)
    exact ⟨rfl, rfl⟩

end Go.Proofs.Ytbjmafbbjhoddaa.Pv
