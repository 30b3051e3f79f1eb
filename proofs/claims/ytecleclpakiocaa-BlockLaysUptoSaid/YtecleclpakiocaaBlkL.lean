/- BlockLast. -/
import Derived.Test.YtecleclpakiocaaBlkK
import Derived.Test.YtecleclpakiocaaPvZk
namespace Go.Proofs.Ytecleclpakiocaa.Pv
open Go
set_option linter.unusedVariables false
set_option linter.unusedSimpArgs false
set_option maxRecDepth 100000

theorem layStep_some {b b' : List Int} {x : Int × ByteArray} (h : layStep b x = some b') : (0 ≤ x.1 ∧ 0 ≤ (x.2.size : Int) ∧ x.1 ≤ b.length ∧ (x.2.size : Int) ≤ b.length - x.1) ∧ b' = ovl b x.1.toNat (bi x.2) := by
  unfold layStep at h
  split at h
  · rename_i hw
    cases h
    exact ⟨of_decide_eq_true hw, rfl⟩
  · cases h

theorem layI_cons {b b' : List Int} {x : Int × ByteArray} {r : List (Int × ByteArray)} (h : layI b (x :: r) = some b') : ∃ b1, layStep b x = some b1 ∧ layI b1 r = some b' := by
  simp only [layI, List.foldlM_cons] at h
  cases h1 : layStep b x with
  | none => rw [h1] at h; cases h
  | some b1 => rw [h1] at h; exact ⟨b1, rfl, h⟩

theorem layI_all : ∀ (l : List (Int × ByteArray)) {b b' : List Int}, layI b l = some b' → ∀ x ∈ l, 0 ≤ x.1 ∧ 0 ≤ (x.2.size : Int) ∧ x.1 ≤ b.length ∧ (x.2.size : Int) ≤ b.length - x.1
  | [], _, _, _, x, hx => by cases hx
  | y :: r, b, b', h, x, hx => by
    obtain ⟨b1, h1, h2⟩ := layI_cons h
    rcases List.mem_cons.1 hx with rfl | hx
    · exact (layStep_some h1).1
    · have := layI_all r h2 x hx
      rw [layStep_len h1] at this; exact this

/-- Does a part reach a place? -/
def hits (i : Nat) (x : Int × ByteArray) : Bool := decide (x.1 ≤ (i : Int)) && decide ((i : Int) - x.1 < (x.2.size : Int))
def hitP (l : List (Int × ByteArray)) (i j : Nat) : Bool := (l.take j).any (hits i)
theorem hit_succ {l : List (Int × ByteArray)} {j : Nat} (i : Nat) (h : j < l.length) : hitP l i (j + 1) = (hitP l i j || hits i (l.getD j default)) := by
  rw [hitP, hitP, List.take_succ_eq_append_getElem h, List.any_append]; simp [List.getD, h]

theorem layI_out : ∀ (l : List (Int × ByteArray)) {b b' : List Int} {i : Nat}, layI b l = some b' → l.any (hits i) = false → b'.getD i 0 = b.getD i 0
  | [], b, b', i, h, _ => by simp [layI] at h; rw [h]
  | x :: r, b, b', i, h, hn => by
    obtain ⟨b1, h1, h2⟩ := layI_cons h
    simp only [List.any_cons, Bool.or_eq_false_iff] at hn
    rw [layI_out r h2 hn.2]
    obtain ⟨⟨w1, w2, w3, w4⟩, rfl⟩ := layStep_some h1
    have hx := hn.1
    simp only [hits, Bool.and_eq_false_iff, decide_eq_false_iff_not] at hx
    simp only [List.getD]
    rw [ovl_get (by rw [bi_len]; omega), bi_len, if_neg (by omega)]

theorem layI_bytes : ∀ (l : List (Int × ByteArray)) {b b' : List Int}, layI b l = some b' → (∀ y ∈ b, 0 ≤ y ∧ y ≤ 255) → ∀ y ∈ b', 0 ≤ y ∧ y ≤ 255
  | [], b, b', h, hb => by simp [layI] at h; rw [← h]; exact hb
  | x :: r, b, b', h, hb => by
    obtain ⟨b1, h1, h2⟩ := layI_cons h
    refine layI_bytes r h2 ?_
    obtain ⟨_, rfl⟩ := layStep_some h1
    intro y hy
    simp only [ovl, List.mem_append] at hy
    rcases hy with (hy | hy) | hy
    · exact hb y (List.mem_of_mem_take hy)
    · exact bi_mem hy
    · exact hb y (List.mem_of_mem_drop hy)

theorem lay_last {b b' : List Int} {l : List (Int × ByteArray)} {x : Int × ByteArray} (h : layI b (l ++ [x]) = some b') (hb : ∀ y ∈ b, 0 ≤ y ∧ y ≤ 255) : cutP (ofI b') x.1 x.2.size = (x.2, 0) := by
  have hby := layI_bytes _ h hb
  rw [layI_snoc] at h
  cases h1 : layI b l with
  | none => rw [h1] at h; cases h
  | some b1 =>
    rw [h1, Option.bind_some] at h
    obtain ⟨⟨w1, w2, w3, w4⟩, e⟩ := layStep_some h
    have hl := layStep_len h
    rw [cutP, if_pos (by rw [ofI_size, hl]; exact decide_eq_true ⟨w1, w2, w3, w4⟩)]
    refine Prod.ext (bi_inj ?_) rfl
    dsimp only
    obtain ⟨o, ho⟩ : ∃ o : Nat, x.1 = o := ⟨x.1.toNat, by omega⟩
    rw [ho] at w3 w4 e ⊢
    rw [bi_extract, bi_ofI hby, Int.toNat_natCast, show ((o : Int) + (x.2.size : Int)).toNat = o + x.2.size by omega]
    rw [Int.toNat_natCast] at e
    refine List.ext_getElem? fun j => ?_
    rw [List.getElem?_drop, List.getElem?_take]
    by_cases hj : j < x.2.size
    · rw [if_pos (by omega), e, ovl_get (by rw [bi_len]; omega), if_pos (by rw [bi_len]; omega), Nat.add_sub_cancel_left]
    · rw [if_neg (by omega), List.getElem?_eq_none (by rw [bi_len]; omega)]

set_option maxHeartbeats 1600000 in
theorem blockLast_sat (z : Int) (l : List (Int × ByteArray)) (hl : l.length ≤ 9223372036854775806) (hsz : ∀ x ∈ l, x.2.size ≤ 9223372036854775806) (σ : Sto) : SatCall Try.prog 5 [.int .i64 z, .sl .sh 2 (l.map prt)] σ fun x σ' => x = .bool true ∧ σ' = σ := by
  refine sat_fn tab Try.func5 rfl (Nat.le_of_ble_eq_true rfl) (by decide) fun hso => sat_base ?_
  by_cases he : (layP z l).2 = 0
  · have h0 : ¬ (z < 0 ∨ 65536 < z) := fun e => by rw [layP, if_pos e] at he; cases he
    obtain ⟨N, rfl⟩ : ∃ N : Nat, z = N := ⟨z.toNat, by omega⟩
    obtain ⟨b, hb⟩ : ∃ b, layI (List.replicate N 0) l = some b := by
      rw [layP, if_neg h0, Int.toNat_natCast] at he
      cases h : layI (List.replicate N 0) l with
      | none => rw [h] at he; cases he
      | some b => exact ⟨b, rfl⟩
    have hP : layP (N : Int) l = (ofI b, 0) := by rw [layP, if_neg h0, Int.toNat_natCast, hb]
    have hbN : b.length = N := by rw [layI_len _ hb]; simp
    have hbs : (ofI b).size = N := by rw [ofI_size, hbN]
    have hL := lay_sat N l hl (σ ++ [])
    rw [hP] at hL
    dsimp only at hL
    have hall : ∀ x ∈ l, 0 ≤ x.1 ∧ 0 ≤ (x.2.size : Int) ∧ x.1 ≤ (N : Int) ∧ (x.2.size : Int) ≤ N - x.1 := fun x hx => by
      have := layI_all l hb x hx
      rw [List.length_replicate] at this; exact this
    have hzero : ∀ i, i < N → l.any (hits i) = false → bt (ofI b) ((i : Nat) : Int) = 0 := fun i hi hn => by
      rw [bt_bi, Int.toNat_natCast, bi_ofI (layI_bytes _ hb (fun y hy => by rw [List.mem_replicate] at hy; omega)), layI_out l hb hn]
      simp [List.getD, hi]
    have d1 : (((ofI b).size : Int) != (N : Int)) = false := by rw [hbs]; simp
    by_cases hne : l = []
    · have d2 : decide ((0 : Int) < ((l.map prt).length : Int)) = false := by simp [hne]
      repeat' (first | (apply og_ops; (first | (apply og_move; (apply op_move (tt := tt); (focus ((conv => lhs; whnf); try exact rfl)); exact rfl)) | (apply og_assign; (apply op_assign (tt := tt); (focus ((conv => lhs; whnf); try exact rfl)); exact rfl)) | (apply og_callv; (refine op_callP (tt := tt) cal10 (shown_sat _) rfl rfl rfl rfl rfl ?_)) | (apply ops_nil))) | (apply og_sat; (first | (apply sat_seq) | (apply sat_region))) | (apply pe_norm))
      refine op_callP (tt := tt) cal16 hL rfl rfl rfl rfl rfl ?_
      repeat' (first | (apply og_ops; (first | (apply og_move; (apply op_move (tt := tt); (focus ((conv => lhs; whnf); try exact rfl)); exact rfl)) | (apply og_assign; (apply op_assign (tt := tt); (focus ((conv => lhs; whnf); try exact rfl)); exact rfl)) | (apply og_bin; (apply op_bin true tab; (focus ((conv => lhs; whnf; arg 1; whnf; arg 2; whnf); try exact rfl)); (exact trivial); exact rfl)) | (apply og_callb; (apply op_len tab; (focus ((conv => lhs; whnf; arg 1; whnf; arg 2; whnf); try exact rfl)); (exact trivial); exact rfl)) | (apply og_extract; (apply op_extract (tt := tt); (focus ((conv => lhs; whnf; arg 1; whnf; arg 2; whnf); try exact rfl)); (exact trivial); exact rfl)) | (apply ops_nil))) | (apply og_sat; (first | (apply sat_seq) | (apply sat_region) | (apply sat_cond_f; exact rfl; (first | exact rfl | assumption)) | (apply sat_skip) | (apply sat_block))) | (apply pe_norm))
      refine sat_loopW (fun i : Nat => [(0, .int .i64 N), (1, .sl .sh 2 (l.map prt)), (5, .bool true), (6, .str (ofI b)), (11, .int .i64 i)]) (fun _ => σ ++ []) (fun i => i ≤ N) (fun i => N - i) 0 (Nat.zero_le _) ?_ rfl ?_
      · (repeat' (first | exact trivial | exact Wk.same _ | refine ⟨?_, ?_⟩))
      rintro i hi
      by_cases hiN : i < N
      · have f1 : decide ((i : Int) < (N : Int)) = true := decide_eq_true (by omega)
        by_cases hi2 : i < 2000
        · have f2 : decide ((i : Int) < 2000) = true := decide_eq_true (by omega)
          repeat' (first | (apply og_ops; (first | (apply og_guard; (apply ops_guard_t; exact (rfl : _ = some _); exact (rfl : _ = PV.bool _); (assumption))) | (apply og_move; (apply op_move (tt := tt); (focus ((conv => lhs; whnf); try exact rfl)); exact rfl)) | (apply og_assign; (apply op_assign (tt := tt); (focus ((conv => lhs; whnf); try exact rfl)); exact rfl)) | (apply og_bin; (apply op_bin true tab; (focus ((conv => lhs; whnf; arg 1; whnf; arg 2; whnf); try exact rfl)); (exact trivial); exact rfl)) | (apply og_pick; (apply op_pick (tt := tt); exact (rfl : _ = PV.bool _); (refine .inl ⟨by assumption, ?_⟩); (focus ((conv => lhs; whnf); try exact rfl)); exact ltn rfl)) | (apply ops_nil))) | (apply og_sat; (first | (apply sat_seq) | (apply sat_region) | (apply sat_cond_t; exact rfl; (assumption)) | (apply sat_skip) | (apply sat_block))) | (apply pe_norm))
          refine sat_loopW (fun j : Nat => [(0, .int .i64 N), (1, .sl .sh 2 (l.map prt)), (5, .bool true), (6, .str (ofI b)), (11, .int .i64 i), (12, .bool (hitP l i j)), (13, .int .i64 j)]) (fun _ => σ ++ []) (fun j => j ≤ l.length) (fun j => l.length - j) 0 (Nat.zero_le _) ?_ rfl ?_
          · (repeat' (first | exact trivial | exact Wk.same _ | refine ⟨?_, ?_⟩))
          rintro j hj
          by_cases hjl : j < l.length
          · have g1 : decide ((j : Int) < ((l.map prt).length : Int)) = true := decide_eq_true (by rw [List.length_map]; omega)
            exact absurd hjl (by simp [hne])
          · have g1 : decide ((j : Int) < ((l.map prt).length : Int)) = false := decide_eq_false (by rw [List.length_map]; omega)
            have hj' : j = l.length := by omega
            subst hj'
            cases hh : hitP l i l.length with
            | true =>
              repeat' (first | (apply og_ops; (first | (apply og_guard; (apply ops_guard_f'; exact (rfl : _ = some _); exact (rfl : _ = PV.bool _); (exact rfl); exact ltn rfl)) | (apply og_move; (apply op_move (tt := tt); (focus ((conv => lhs; whnf); try exact rfl)); exact rfl)) | (apply og_assign; (apply op_assign (tt := tt); (focus ((conv => lhs; whnf); try exact rfl)); exact rfl)) | (apply og_bin; (apply op_bin true tab; (focus ((conv => lhs; whnf; arg 1; whnf; arg 2; whnf); try exact rfl)); (first | exact trivial | (simp only [InR]; omega)); exact rfl)) | (apply og_pick; (apply op_pick (tt := tt); exact (rfl : _ = PV.bool _); (refine .inr ⟨rfl, ?_⟩); (focus ((conv => lhs; whnf); try exact rfl)); exact ltn rfl)) | (apply og_callb; (apply op_len tab; (focus ((conv => lhs; whnf; arg 1; whnf; arg 2; whnf); try exact rfl)); (exact trivial); exact rfl)) | (apply og_un; (apply op_un (tt := tt) true; (focus ((conv => lhs; whnf; arg 1; whnf; arg 2; whnf); try exact rfl)); (exact trivial); exact rfl)) | (apply ops_nil))) | (apply og_sat; (first | (apply sat_seq) | (apply sat_region) | (apply sat_cond_f; exact rfl; (first | exact rfl | assumption)) | (apply sat_skip) | (apply sat_exit))) | (apply pe_norm) | (apply pb_norm) | (apply pe_exit) | (apply pb_same))
              refine ⟨i + 1, by omega, by omega, ?_, rfl⟩
              (repeat' (first | exact trivial | exact Wk.same _ | refine ⟨?_, ?_⟩))
            | false =>
              have hz : (bt (ofI b) ((i : Nat) : Int) != 0) = false := by
                rw [hzero i hiN (by rw [hitP, List.take_length] at hh; exact hh)]; rfl
              repeat' (first | (apply og_ops; (first | (apply og_guard; (apply ops_guard_t; exact (rfl : _ = some _); exact (rfl : _ = PV.bool _); (exact rfl))) | (apply og_move; (apply op_move (tt := tt); (focus ((conv => lhs; whnf); try exact rfl)); exact rfl)) | (apply og_assign; (apply op_assign (tt := tt); (focus ((conv => lhs; whnf); try exact rfl)); exact rfl)) | (apply og_bin; (apply op_bin true tab; (focus ((conv => lhs; whnf; arg 1; whnf; arg 2; whnf); try exact rfl)); (first | exact trivial | (simp only [InR]; omega)); exact rfl)) | (apply og_pick; (apply op_pick (tt := tt); exact (rfl : _ = PV.bool _); (refine .inl ⟨rfl, ?_⟩); (focus ((conv => lhs; whnf); try exact rfl)); exact ltn rfl)) | (apply og_callb; (apply op_len tab; (focus ((conv => lhs; whnf; arg 1; whnf; arg 2; whnf); try exact rfl)); (exact trivial); exact rfl)) | (apply og_un; (apply op_un (tt := tt) true; (focus ((conv => lhs; whnf; arg 1; whnf; arg 2; whnf); try exact rfl)); (exact trivial); exact rfl)) | (apply og_index; (apply op_index tab (tI := 3); (focus ((conv => lhs; whnf; arg 1; whnf; arg 2; whnf); try exact rfl)); (omega); exact rfl)) | (apply ops_nil))) | (apply og_sat; (first | (apply sat_seq) | (apply sat_region) | (apply sat_cond_f; exact rfl; (assumption)) | (apply sat_skip) | (apply sat_exit))) | (apply pe_norm) | (apply pb_norm) | (apply pe_exit) | (apply pb_same))
              refine ⟨i + 1, by omega, by omega, ?_, rfl⟩
              (repeat' (first | exact trivial | exact Wk.same _ | refine ⟨?_, ?_⟩))
        · have f2 : decide ((i : Int) < 2000) = false := decide_eq_false (by omega)
          repeat' (first | (apply og_ops; (first | (apply og_guard; (apply ops_guard_t; exact (rfl : _ = some _); exact (rfl : _ = PV.bool _); (assumption))) | (apply og_move; (apply op_move (tt := tt); (focus ((conv => lhs; whnf); try exact rfl)); exact rfl)) | (apply og_assign; (apply op_assign (tt := tt); (focus ((conv => lhs; whnf); try exact rfl)); exact rfl)) | (apply og_bin; (apply op_bin true tab; (focus ((conv => lhs; whnf; arg 1; whnf; arg 2; whnf); try exact rfl)); (exact trivial); exact rfl)) | (apply og_pick; (apply op_pick (tt := tt); exact (rfl : _ = PV.bool _); (refine .inl ⟨by assumption, ?_⟩); (focus ((conv => lhs; whnf); try exact rfl)); exact ltn rfl)) | (apply ops_nil))) | (apply og_sat; (first | (apply sat_seq) | (apply sat_region) | (apply sat_cond_f; exact rfl; (assumption)) | (apply sat_ret) | (apply sat_exit))) | (apply pe_norm) | (apply pe_exit) | (apply pb_same))
          (change fnPost _ _ _ _ _ _ _; apply fn_endN; (exact .inr rfl); (focus (repeat' (first | (apply rr_tmp; (focus ((conv => lhs; whnf); try exact rfl)); (exact Wk.same _)) | exact rr_nil))); exact rfl; (exact rfl); exact Nat.le_refl _; (focus (repeat' (first | exact trivial | refine ⟨?_, ?_⟩))); exact hso)
          exact ⟨rfl, rfl⟩
      · have f1 : decide ((i : Int) < (N : Int)) = false := decide_eq_false (by omega)
        repeat' (first | (apply og_ops; (first | (apply og_guard; (apply ops_guard_f'; exact (rfl : _ = some _); exact (rfl : _ = PV.bool _); (assumption); exact ltn rfl)) | (apply og_move; (apply op_move (tt := tt); (focus ((conv => lhs; whnf); try exact rfl)); exact rfl)) | (apply og_assign; (apply op_assign (tt := tt); (focus ((conv => lhs; whnf); try exact rfl)); exact rfl)) | (apply og_bin; (apply op_bin true tab; (focus ((conv => lhs; whnf; arg 1; whnf; arg 2; whnf); try exact rfl)); (exact trivial); exact rfl)) | (apply og_pick; (apply op_pick (tt := tt); exact (rfl : _ = PV.bool _); (refine .inr ⟨by assumption, ?_⟩); (focus ((conv => lhs; whnf); try exact rfl)); exact ltn rfl)) | (apply ops_nil))) | (apply og_sat; (first | (apply sat_seq) | (apply sat_region) | (apply sat_cond_f; exact rfl; (exact rfl)) | (apply sat_ret) | (apply sat_exit))) | (apply pe_norm) | (apply pe_exit) | (apply pb_same))
        (change fnPost _ _ _ _ _ _ _; apply fn_endN; (exact .inr rfl); (focus (repeat' (first | (apply rr_tmp; (focus ((conv => lhs; whnf); try exact rfl)); (exact Wk.same _)) | exact rr_nil))); exact rfl; (exact rfl); exact Nat.le_refl _; (focus (repeat' (first | exact trivial | refine ⟨?_, ?_⟩))); exact hso)
        exact ⟨rfl, rfl⟩
    · have hlp : 0 < l.length := by
        rcases Nat.eq_zero_or_pos l.length with e | e
        · exact absurd (List.length_eq_zero_iff.1 e) hne
        · exact e
      have d2 : decide ((0 : Int) < ((l.map prt).length : Int)) = true := decide_eq_true (by rw [List.length_map]; omega)
      have hlast : l = l.dropLast ++ [l.getD ((((l.map prt).length : Nat) : Int) - 1).toNat default] := by
        conv => lhs; rw [← List.dropLast_concat_getLast hne]
        rw [List.length_map, show (((l.length : Nat) : Int) - 1).toNat = l.length - 1 by omega, List.getLast_eq_getElem]
        simp [List.getD, show l.length - 1 < l.length by omega]
      have hcut := lay_last (by rw [← hlast]; exact hb) (fun y hy => by rw [List.mem_replicate] at hy; omega)
      have hcs := cut_sat (ofI b) (l.getD ((((l.map prt).length : Nat) : Int) - 1).toNat default).1 ((l.getD ((((l.map prt).length : Nat) : Int) - 1).toNat default).2.size) (by omega)
      repeat' (first | (apply og_ops; (first | (apply og_move; (apply op_move (tt := tt); (focus ((conv => lhs; whnf); try exact rfl)); exact rfl)) | (apply og_assign; (apply op_assign (tt := tt); (focus ((conv => lhs; whnf); try exact rfl)); exact rfl)) | (apply og_callv; (refine op_callP (tt := tt) cal10 (shown_sat _) rfl rfl rfl rfl rfl ?_)) | (apply ops_nil))) | (apply og_sat; (first | (apply sat_seq) | (apply sat_region))) | (apply pe_norm))
      refine op_callP (tt := tt) cal16 hL rfl rfl rfl rfl rfl ?_
      repeat' (first | (apply og_ops; (first | (apply og_move; (apply op_move (tt := tt); (focus ((conv => lhs; whnf); try exact rfl)); exact rfl)) | (apply og_assign; (apply op_assign (tt := tt); (focus ((conv => lhs; whnf); try exact rfl)); exact rfl)) | (apply og_bin; (apply op_bin true tab; (focus ((conv => lhs; whnf; arg 1; whnf; arg 2; whnf); try exact rfl)); (first | exact trivial | (simp only [decide_eq_true_eq, decide_eq_false_iff_not, List.length_map, InR, ne_eq] at *; omega)); exact rfl)) | (apply og_load; (first | (apply op_lk; (apply lk_loadX tab; exact rfl; exact rfl; exact rfl; (focus ((conv => lhs; whnf; arg 1; whnf; arg 2; whnf); try skip)); (exact trivial)); (intro c h; cases h); exact rfl) | (apply op_load tab; (focus ((conv => lhs; whnf; arg 1; whnf; arg 2; whnf); try skip)); (exact Nat.le_of_ble_eq_true rfl); exact rfl))) | (apply og_callb; (apply op_len tab; (focus ((conv => lhs; whnf; arg 1; whnf; arg 2; whnf); try exact rfl)); (exact trivial); exact rfl)) | (apply og_indexAddr; (refine op_indexMap (tI := 3) _ tab rfl (by (focus ((conv => lhs; whnf); try exact rfl))) (by (focus ((conv => lhs; whnf); try exact rfl))) rfl (by (simp only [List.length_map, List.length_cons, List.length_append, List.length_nil]; omega)) (by (simp only [List.length_map, List.length_cons, List.length_append, List.length_nil]; omega)) (by (focus ((conv => lhs; whnf); try exact rfl))) (ltn rfl) ?_)) | (apply og_fieldAddr; (apply op_lk; (apply lk_fieldAddrB tab; exact rfl; (focus ((conv => lhs; whnf); try exact rfl)); exact rfl; (first | exact (rfl : _ = 0) | exact (rfl : _ = 1))); (intro c h; cases h); exact rfl)) | (apply og_extract; (apply op_extract (tt := tt); (focus ((conv => lhs; whnf; arg 1; whnf; arg 2; whnf); try exact rfl)); (exact trivial); exact rfl)) | (apply og_store; (apply op_storeX tab; exact rfl; exact rfl; exact rfl; exact rfl; exact rfl; exact rfl; exact rfl; exact rfl)) | (apply og_alloc; (apply op_allocX tab; exact rfl; exact rfl; (exact (rfl : _ = 0)); exact rfl)) | (apply ops_nil))) | (apply og_sat; (first | (apply sat_seq) | (apply sat_region) | (apply sat_cond_t; exact rfl; (assumption)) | (apply sat_cond_f; exact rfl; (first | exact rfl | assumption)) | (apply sat_skip))) | (apply pe_norm))
      have k1 : (!beqS (cutP (ofI b) (l.getD ((((l.map prt).length : Nat) : Int) - 1).toNat default).1 ((l.getD ((((l.map prt).length : Nat) : Int) - 1).toNat default).2.size : Int)).1 (l.getD ((((l.map prt).length : Nat) : Int) - 1).toNat default).2) = false := by rw [hcut, beqS_iff.2 rfl]; rfl
      have k2 : ((cutP (ofI b) (l.getD ((((l.map prt).length : Nat) : Int) - 1).toNat default).1 ((l.getD ((((l.map prt).length : Nat) : Int) - 1).toNat default).2.size : Int)).2 != 0) = false := by rw [hcut]; rfl
      repeat' (first | (apply og_ops; (first | (apply og_guard; (apply ops_guard_t; exact (rfl : _ = some _); exact (rfl : _ = PV.bool _); (assumption))) | (apply og_move; (apply op_move (tt := tt); (focus ((conv => lhs; whnf); try exact rfl)); exact rfl)) | (apply og_assign; (apply op_assign (tt := tt); (focus ((conv => lhs; whnf); try exact rfl)); exact rfl)) | (apply og_callv; (refine op_callP (tt := tt) cal17 (cut_sat _ _ _ ?_ _) rfl rfl rfl rfl rfl ?_; (omega))) | (apply og_bin; (apply op_bin true tab; (focus ((conv => lhs; whnf; arg 1; whnf; arg 2; whnf); try exact rfl)); (exact trivial); exact rfl)) | (apply og_pick; (apply op_pick (tt := tt); exact (rfl : _ = PV.bool _); (refine .inr ⟨by assumption, ?_⟩); (focus ((conv => lhs; whnf); try exact rfl)); exact ltn rfl)) | (apply og_load; (apply op_lk; (apply lk_loadX tab; exact rfl; exact rfl; exact rfl; (focus ((conv => lhs; whnf; arg 1; whnf; arg 2; whnf); try skip)); (exact trivial)); (intro c h; cases h); exact rfl)) | (apply og_fieldAddr; (apply op_lk; (apply lk_fieldAddrB tab; exact rfl; (focus ((conv => lhs; whnf); try exact rfl)); exact rfl; (exact (rfl : _ = 1))); (intro c h; cases h); exact rfl)) | (apply og_extract; (apply op_extract (tt := tt); (focus ((conv => lhs; whnf; arg 1; whnf; arg 2; whnf); try exact rfl)); (exact trivial); exact rfl)) | (apply ops_nil))) | (apply og_sat; (first | (apply sat_seq) | (apply sat_region) | (apply sat_cond_f; exact rfl; (assumption)) | (apply sat_skip) | (apply sat_block))) | (apply pe_norm))
      refine sat_loopW (fun i : Nat => [(0, .int .i64 N), (1, .sl .sh 2 (l.map prt)), (5, .bool true), (6, .str (ofI b)), (11, .int .i64 i)]) (fun _ => σ ++ [.cells [.int .i64 (l.getD ((((l.map prt).length : Nat) : Int) - 1).toNat default).1, .str (l.getD ((((l.map prt).length : Nat) : Int) - 1).toNat default).2]]) (fun i => i ≤ N) (fun i => N - i) 0 (Nat.zero_le _) ?_ rfl ?_
      · (repeat' (first | exact trivial | exact Wk.same _ | refine ⟨?_, ?_⟩))
      rintro i hi
      by_cases hiN : i < N
      · have f1 : decide ((i : Int) < (N : Int)) = true := decide_eq_true (by omega)
        by_cases hi2 : i < 2000
        · have f2 : decide ((i : Int) < 2000) = true := decide_eq_true (by omega)
          repeat' (first | (apply og_ops; (first | (apply og_guard; (apply ops_guard_t; exact (rfl : _ = some _); exact (rfl : _ = PV.bool _); (assumption))) | (apply og_move; (apply op_move (tt := tt); (focus ((conv => lhs; whnf); try exact rfl)); exact rfl)) | (apply og_assign; (apply op_assign (tt := tt); (focus ((conv => lhs; whnf); try exact rfl)); exact rfl)) | (apply og_bin; (apply op_bin true tab; (focus ((conv => lhs; whnf; arg 1; whnf; arg 2; whnf); try exact rfl)); (exact trivial); exact rfl)) | (apply og_pick; (apply op_pick (tt := tt); exact (rfl : _ = PV.bool _); (refine .inl ⟨by assumption, ?_⟩); (focus ((conv => lhs; whnf); try exact rfl)); exact ltn rfl)) | (apply ops_nil))) | (apply og_sat; (first | (apply sat_seq) | (apply sat_region) | (apply sat_cond_t; exact rfl; (assumption)) | (apply sat_skip) | (apply sat_block))) | (apply pe_norm))
          refine sat_loopW (fun j : Nat => [(0, .int .i64 N), (1, .sl .sh 2 (l.map prt)), (5, .bool true), (6, .str (ofI b)), (11, .int .i64 i), (12, .bool (hitP l i j)), (13, .int .i64 j)]) (fun _ => σ ++ [.cells [.int .i64 (l.getD ((((l.map prt).length : Nat) : Int) - 1).toNat default).1, .str (l.getD ((((l.map prt).length : Nat) : Int) - 1).toNat default).2]]) (fun j => j ≤ l.length) (fun j => l.length - j) 0 (Nat.zero_le _) ?_ rfl ?_
          · (repeat' (first | exact trivial | exact Wk.same _ | refine ⟨?_, ?_⟩))
          rintro j hj
          by_cases hjl : j < l.length
          · have g1 : decide ((j : Int) < ((l.map prt).length : Int)) = true := decide_eq_true (by rw [List.length_map]; omega)
            have hw := hall (l.getD ((j : Nat) : Int).toNat default) (by rw [Int.toNat_natCast]; simp [List.getD, hjl])
            obtain ⟨w1, w2, w3, w4⟩ := hw
            cases hh : hitP l i j with
            | true =>
              have hs2 : hitP l i (j + 1) = true := by rw [hit_succ i hjl, hh]; rfl
              repeat' (first | (apply og_ops; (first | (apply og_guard; (first | (apply ops_guard_u; exact (rfl : _ = some _); exact rfl; exact ltn rfl) | (apply ops_guard_f'; exact (rfl : _ = some _); exact (rfl : _ = PV.bool _); (exact rfl); exact ltn rfl))) | (apply og_move; (apply op_move (tt := tt); (focus ((conv => lhs; whnf); try exact rfl)); exact rfl)) | (apply og_assign; (apply op_assign (tt := tt); (focus ((conv => lhs; whnf); try exact rfl)); exact rfl)) | (apply og_bin; (apply op_bin true tab; (focus ((conv => lhs; whnf; arg 1; whnf; arg 2; whnf); try exact rfl)); (first | exact trivial | (simp only [InR]; omega)); exact rfl)) | (apply og_pick; (apply op_pick (tt := tt); exact (rfl : _ = PV.bool _); (refine .inl ⟨rfl, ?_⟩); (focus ((conv => lhs; whnf); try exact rfl)); exact ltn rfl)) | (apply og_callb; (apply op_len tab; (focus ((conv => lhs; whnf; arg 1; whnf; arg 2; whnf); try exact rfl)); (exact trivial); exact rfl)) | (apply ops_nil))) | (apply og_sat; (first | (apply sat_seq) | (apply sat_region) | (apply sat_cond_t; exact rfl; (assumption)) | (apply sat_skip) | (apply sat_block) | (apply sat_drawC (k := 23); exact mixed; decide +kernel; decide +kernel))) | (apply pe_norm) | (apply pb_norm) | (apply og_dd; (first | (apply dd_lk; (apply lg_move; (apply lk_move (tt := tt); (focus ((conv => lhs; whnf); try exact rfl)))); exact rfl; exact rfl) | (apply dd_no2; exact (rfl : _ = some _); exact (rfl : _ = PV.bool _); (exact rfl); exact rfl) | (apply dd_un; exact (rfl : _ = some _); exact rfl; exact rfl) | (apply dd_nil))))
              refine ⟨j + 1, by omega, by omega, ?_, rfl⟩
              rw [hs2]
              (repeat' (first | exact trivial | exact Wk.same _ | refine ⟨?_, ?_⟩))
            | false =>
              by_cases hA : (l.getD ((j : Nat) : Int).toNat default).1 ≤ (i : Int)
              · have a1 : decide ((l.getD ((j : Nat) : Int).toNat default).1 ≤ (i : Int)) = true := decide_eq_true hA
                have hs2 : hitP l i (j + 1) = decide ((i : Int) - (l.getD ((j : Nat) : Int).toNat default).1 < ((l.getD ((j : Nat) : Int).toNat default).2.size : Int)) := by
                  rw [hit_succ i hjl, hh, hits]; rw [Int.toNat_natCast] at a1 ⊢; rw [a1]; rfl
                repeat' (first | (apply og_ops; (first | (apply og_guard; (apply ops_guard_t; exact (rfl : _ = some _); exact (rfl : _ = PV.bool _); (first | exact rfl | assumption))) | (apply og_move; (apply op_move (tt := tt); (focus ((conv => lhs; whnf); try exact rfl)); exact rfl)) | (apply og_assign; (apply op_assign (tt := tt); (focus ((conv => lhs; whnf); try exact rfl)); exact rfl)) | (apply og_bin; (apply op_bin true tab; (focus ((conv => lhs; whnf; arg 1; whnf; arg 2; whnf); try exact rfl)); (first | exact trivial | (simp only [InR]; omega)); exact rfl)) | (apply og_pick; (apply op_pick (tt := tt); exact (rfl : _ = PV.bool _); (first | refine .inr ⟨rfl, ?_⟩ | refine .inl ⟨by assumption, ?_⟩); (focus ((conv => lhs; whnf); try exact rfl)); exact ltn rfl)) | (apply og_callb; (apply op_len tab; (focus ((conv => lhs; whnf; arg 1; whnf; arg 2; whnf); try exact rfl)); (exact trivial); exact rfl)) | (apply ops_nil))) | (apply og_sat; (first | (apply sat_seq) | (apply sat_region) | (apply sat_cond_t; exact rfl; (assumption)) | (apply sat_skip) | (apply sat_block) | (apply sat_drawC (k := 23); exact mixed; decide +kernel; decide +kernel))) | (apply pe_norm) | (apply pb_norm) | (apply og_dd; (first | (apply dd_lk; (apply lg_move; (apply lk_move (tt := tt); (focus ((conv => lhs; whnf); try exact rfl)))); exact rfl; exact rfl) | (apply dd_lkg; exact (rfl : _ = some _); exact (rfl : _ = PV.bool _); (first | exact rfl | assumption); (first | (apply lg_indexAddr; exact lk_indexMap (tI := 3) _ tab rfl (by (focus ((conv => lhs; whnf); try exact rfl))) (by (focus ((conv => lhs; whnf); try exact rfl))) rfl (by (omega)) (by (omega)) (by (focus ((conv => lhs; whnf); try exact rfl)))) | (apply lg_move; (apply lk_move (tt := tt); (focus ((conv => lhs; whnf); try exact rfl)))) | (apply lg_bin; (apply lk_bin true tab; (focus ((conv => lhs; whnf; arg 1; whnf; arg 2; whnf); try exact rfl)); (first | exact trivial | (simp only [InR]; omega)))) | (apply lg_fieldAddr; (apply lk_fieldAddrC tab; exact rfl; (focus ((conv => lhs; whnf); try exact rfl)); exact rfl; exact rfl; (focus ((conv => lhs; whnf); try exact rfl)))) | (apply lg_load; (apply lk_load tab; (focus ((conv => lhs; whnf; arg 1; whnf; arg 2; whnf); try skip)); (exact trivial))) | (apply lg_callb; (apply lk_len tab; (focus ((conv => lhs; whnf; arg 1; whnf; arg 2; whnf); try exact rfl)); (exact trivial)))); exact rfl; exact rfl) | (apply dd_nil))))
                refine ⟨j + 1, by omega, by omega, ?_, rfl⟩
                rw [hs2]
                (repeat' (first | exact trivial | exact Wk.same _ | refine ⟨?_, ?_⟩))
              · have a1 : decide ((l.getD ((j : Nat) : Int).toNat default).1 ≤ (i : Int)) = false := decide_eq_false hA
                have hs2 : hitP l i (j + 1) = false := by
                  rw [hit_succ i hjl, hh, hits]; rw [Int.toNat_natCast] at a1; rw [a1]; rfl
                repeat' (first | (apply og_ops; (first | (apply og_guard; (first | (apply ops_guard_t; exact (rfl : _ = some _); exact (rfl : _ = PV.bool _); (exact rfl)) | (apply ops_guard_f'; exact (rfl : _ = some _); exact (rfl : _ = PV.bool _); (assumption); exact ltn rfl))) | (apply og_move; (apply op_move (tt := tt); (focus ((conv => lhs; whnf); try exact rfl)); exact rfl)) | (apply og_assign; (apply op_assign (tt := tt); (focus ((conv => lhs; whnf); try exact rfl)); exact rfl)) | (apply og_bin; (apply op_bin true tab; (focus ((conv => lhs; whnf; arg 1; whnf; arg 2; whnf); try exact rfl)); (first | exact trivial | (simp only [InR]; omega)); exact rfl)) | (apply og_pick; (apply op_pick (tt := tt); exact (rfl : _ = PV.bool _); (first | refine .inr ⟨rfl, ?_⟩ | refine .inr ⟨by assumption, ?_⟩); (focus ((conv => lhs; whnf); try exact rfl)); exact ltn rfl)) | (apply og_callb; (apply op_len tab; (focus ((conv => lhs; whnf; arg 1; whnf; arg 2; whnf); try exact rfl)); (exact trivial); exact rfl)) | (apply ops_nil))) | (apply og_sat; (first | (apply sat_seq) | (apply sat_region) | (apply sat_cond_t; exact rfl; (assumption)) | (apply sat_skip) | (apply sat_block) | (apply sat_drawC (k := 23); exact mixed; decide +kernel; decide +kernel))) | (apply pe_norm) | (apply pb_norm) | (apply og_dd; (first | (apply dd_lk; (apply lg_move; (apply lk_move (tt := tt); (focus ((conv => lhs; whnf); try exact rfl)))); exact rfl; exact rfl) | (apply dd_no2; exact (rfl : _ = some _); exact (rfl : _ = PV.bool _); (assumption); exact rfl) | (apply dd_lkg; exact (rfl : _ = some _); exact (rfl : _ = PV.bool _); (exact rfl); (first | (apply lg_indexAddr; exact lk_indexMap (tI := 3) _ tab rfl (by (focus ((conv => lhs; whnf); try exact rfl))) (by (focus ((conv => lhs; whnf); try exact rfl))) rfl (by (omega)) (by (omega)) (by (focus ((conv => lhs; whnf); try exact rfl)))) | (apply lg_move; (apply lk_move (tt := tt); (focus ((conv => lhs; whnf); try exact rfl)))) | (apply lg_bin; (apply lk_bin true tab; (focus ((conv => lhs; whnf; arg 1; whnf; arg 2; whnf); try exact rfl)); (exact trivial))) | (apply lg_fieldAddr; (apply lk_fieldAddrC tab; exact rfl; (focus ((conv => lhs; whnf); try exact rfl)); exact rfl; exact rfl; (focus ((conv => lhs; whnf); try exact rfl)))) | (apply lg_load; (apply lk_load tab; (focus ((conv => lhs; whnf; arg 1; whnf; arg 2; whnf); try skip)); (exact trivial)))); exact rfl; exact rfl) | (apply dd_nil))))
                refine ⟨j + 1, by omega, by omega, ?_, rfl⟩
                rw [hs2]
                (repeat' (first | exact trivial | exact Wk.same _ | refine ⟨?_, ?_⟩))
          · have g1 : decide ((j : Int) < ((l.map prt).length : Int)) = false := decide_eq_false (by rw [List.length_map]; omega)
            have hj' : j = l.length := by omega
            subst hj'
            cases hh : hitP l i l.length with
            | true =>
              repeat' (first | (apply og_ops; (first | (apply og_guard; (apply ops_guard_f'; exact (rfl : _ = some _); exact (rfl : _ = PV.bool _); (exact rfl); exact ltn rfl)) | (apply og_move; (apply op_move (tt := tt); (focus ((conv => lhs; whnf); try exact rfl)); exact rfl)) | (apply og_assign; (apply op_assign (tt := tt); (focus ((conv => lhs; whnf); try exact rfl)); exact rfl)) | (apply og_bin; (apply op_bin true tab; (focus ((conv => lhs; whnf; arg 1; whnf; arg 2; whnf); try exact rfl)); (first | exact trivial | (simp only [InR]; omega)); exact rfl)) | (apply og_pick; (apply op_pick (tt := tt); exact (rfl : _ = PV.bool _); (refine .inr ⟨rfl, ?_⟩); (focus ((conv => lhs; whnf); try exact rfl)); exact ltn rfl)) | (apply og_callb; (apply op_len tab; (focus ((conv => lhs; whnf; arg 1; whnf; arg 2; whnf); try exact rfl)); (exact trivial); exact rfl)) | (apply og_un; (apply op_un (tt := tt) true; (focus ((conv => lhs; whnf; arg 1; whnf; arg 2; whnf); try exact rfl)); (exact trivial); exact rfl)) | (apply ops_nil))) | (apply og_sat; (first | (apply sat_seq) | (apply sat_region) | (apply sat_cond_f; exact rfl; (first | exact rfl | assumption)) | (apply sat_skip) | (apply sat_exit))) | (apply pe_norm) | (apply pb_norm) | (apply pe_exit) | (apply pb_same))
              refine ⟨i + 1, by omega, by omega, ?_, rfl⟩
              (repeat' (first | exact trivial | exact Wk.same _ | refine ⟨?_, ?_⟩))
            | false =>
              have hz : (bt (ofI b) ((i : Nat) : Int) != 0) = false := by
                rw [hzero i hiN (by rw [hitP, List.take_length] at hh; exact hh)]; rfl
              repeat' (first | (apply og_ops; (first | (apply og_guard; (apply ops_guard_t; exact (rfl : _ = some _); exact (rfl : _ = PV.bool _); (exact rfl))) | (apply og_move; (apply op_move (tt := tt); (focus ((conv => lhs; whnf); try exact rfl)); exact rfl)) | (apply og_assign; (apply op_assign (tt := tt); (focus ((conv => lhs; whnf); try exact rfl)); exact rfl)) | (apply og_bin; (apply op_bin true tab; (focus ((conv => lhs; whnf; arg 1; whnf; arg 2; whnf); try exact rfl)); (first | exact trivial | (simp only [InR]; omega)); exact rfl)) | (apply og_pick; (apply op_pick (tt := tt); exact (rfl : _ = PV.bool _); (refine .inl ⟨rfl, ?_⟩); (focus ((conv => lhs; whnf); try exact rfl)); exact ltn rfl)) | (apply og_callb; (apply op_len tab; (focus ((conv => lhs; whnf; arg 1; whnf; arg 2; whnf); try exact rfl)); (exact trivial); exact rfl)) | (apply og_un; (apply op_un (tt := tt) true; (focus ((conv => lhs; whnf; arg 1; whnf; arg 2; whnf); try exact rfl)); (exact trivial); exact rfl)) | (apply og_index; (apply op_index tab (tI := 3); (focus ((conv => lhs; whnf; arg 1; whnf; arg 2; whnf); try exact rfl)); (omega); exact rfl)) | (apply ops_nil))) | (apply og_sat; (first | (apply sat_seq) | (apply sat_region) | (apply sat_cond_f; exact rfl; (assumption)) | (apply sat_skip) | (apply sat_exit))) | (apply pe_norm) | (apply pb_norm) | (apply pe_exit) | (apply pb_same))
              refine ⟨i + 1, by omega, by omega, ?_, rfl⟩
              (repeat' (first | exact trivial | exact Wk.same _ | refine ⟨?_, ?_⟩))
        · have f2 : decide ((i : Int) < 2000) = false := decide_eq_false (by omega)
          repeat' (first | (apply og_ops; (first | (apply og_guard; (apply ops_guard_t; exact (rfl : _ = some _); exact (rfl : _ = PV.bool _); (assumption))) | (apply og_move; (apply op_move (tt := tt); (focus ((conv => lhs; whnf); try exact rfl)); exact rfl)) | (apply og_assign; (apply op_assign (tt := tt); (focus ((conv => lhs; whnf); try exact rfl)); exact rfl)) | (apply og_bin; (apply op_bin true tab; (focus ((conv => lhs; whnf; arg 1; whnf; arg 2; whnf); try exact rfl)); (exact trivial); exact rfl)) | (apply og_pick; (apply op_pick (tt := tt); exact (rfl : _ = PV.bool _); (refine .inl ⟨by assumption, ?_⟩); (focus ((conv => lhs; whnf); try exact rfl)); exact ltn rfl)) | (apply ops_nil))) | (apply og_sat; (first | (apply sat_seq) | (apply sat_region) | (apply sat_cond_f; exact rfl; (assumption)) | (apply sat_ret) | (apply sat_exit))) | (apply pe_norm) | (apply pe_exit) | (apply pb_same))
          (change fnPost _ _ _ _ _ _ _; apply fn_endN; (exact .inr rfl); (focus (repeat' (first | (apply rr_tmp; (focus ((conv => lhs; whnf); try exact rfl)); (exact Wk.same _)) | exact rr_nil))); exact rfl; (exact rfl); exact Nat.le_refl _; (focus (repeat' (first | exact trivial | refine ⟨?_, ?_⟩))); exact hso)
          exact ⟨rfl, rfl⟩
      · have f1 : decide ((i : Int) < (N : Int)) = false := decide_eq_false (by omega)
        repeat' (first | (apply og_ops; (first | (apply og_guard; (apply ops_guard_f'; exact (rfl : _ = some _); exact (rfl : _ = PV.bool _); (assumption); exact ltn rfl)) | (apply og_move; (apply op_move (tt := tt); (focus ((conv => lhs; whnf); try exact rfl)); exact rfl)) | (apply og_assign; (apply op_assign (tt := tt); (focus ((conv => lhs; whnf); try exact rfl)); exact rfl)) | (apply og_bin; (apply op_bin true tab; (focus ((conv => lhs; whnf; arg 1; whnf; arg 2; whnf); try exact rfl)); (exact trivial); exact rfl)) | (apply og_pick; (apply op_pick (tt := tt); exact (rfl : _ = PV.bool _); (refine .inr ⟨by assumption, ?_⟩); (focus ((conv => lhs; whnf); try exact rfl)); exact ltn rfl)) | (apply ops_nil))) | (apply og_sat; (first | (apply sat_seq) | (apply sat_region) | (apply sat_cond_f; exact rfl; (exact rfl)) | (apply sat_ret) | (apply sat_exit))) | (apply pe_norm) | (apply pe_exit) | (apply pb_same))
        (change fnPost _ _ _ _ _ _ _; apply fn_endN; (exact .inr rfl); (focus (repeat' (first | (apply rr_tmp; (focus ((conv => lhs; whnf); try exact rfl)); (exact Wk.same _)) | exact rr_nil))); exact rfl; (exact rfl); exact Nat.le_refl _; (focus (repeat' (first | exact trivial | refine ⟨?_, ?_⟩))); exact hso)
        exact ⟨rfl, rfl⟩
  · have d1 : ((layP z l).2 != 0) = true := by simpa using he
    repeat' (first | (apply og_ops; (first | (apply og_move; (apply op_move (tt := tt); (focus ((conv => lhs; whnf); try exact rfl)); exact rfl)) | (apply og_assign; (apply op_assign (tt := tt); (focus ((conv => lhs; whnf); try exact rfl)); exact rfl)) | (apply og_callv; (first | (refine op_callP (tt := tt) cal10 (shown_sat _) rfl rfl rfl rfl rfl ?_) | (refine op_callP (tt := tt) cal16 (lay_sat _ _ ?_ _) rfl rfl rfl rfl rfl ?_; (assumption)))) | (apply og_bin; (apply op_bin true tab; (focus ((conv => lhs; whnf; arg 1; whnf; arg 2; whnf); try exact rfl)); (exact trivial); exact rfl)) | (apply og_extract; (apply op_extract (tt := tt); (focus ((conv => lhs; whnf; arg 1; whnf; arg 2; whnf); try exact rfl)); (exact trivial); exact rfl)) | (apply ops_nil))) | (apply og_sat; (first | (apply sat_seq) | (apply sat_region) | (apply sat_cond_t; exact rfl; (assumption)) | (apply sat_ret))) | (apply pe_norm) | (apply pe_ret))
    (change fnPost _ _ _ _ _ _ _; apply fn_endN; (exact .inr rfl); (focus (repeat' (first | (apply rr_tmp; (focus ((conv => lhs; whnf); try exact rfl)); (exact Wk.same _)) | exact rr_nil))); exact rfl; (exact rfl); exact Nat.le_refl _; (focus (repeat' (first | exact trivial | refine ⟨?_, ?_⟩))); exact hso)
    exact ⟨rfl, rfl⟩

theorem dec_prt (c : List PV) (h : HasC (.struct [.int .i64, .str]) c) : ∃ a : Int × ByteArray, mkV (.struct [.int .i64, .str]) c = prt a ∧ a.2.size ≤ maxLen := by
  obtain ⟨_, _, rfl, ⟨a, _, rfl⟩, _, _, rfl, ⟨b, hb, rfl⟩, rfl⟩ := h
  exact ⟨(a, b), rfl, hb⟩

theorem wt_prt : ∀ (l : List (Int × ByteArray)), l.length ≤ wtAll (l.map prt) ∧ ∀ x ∈ l, x.2.size ≤ wtAll (l.map prt)
  | [] => ⟨Nat.zero_le _, fun x hx => by cases hx⟩
  | y :: r => by
    obtain ⟨h1, h2⟩ := wt_prt r
    simp only [List.map_cons, List.length_cons, wtAll, PV.wt]
    refine ⟨by omega, fun x hx => ?_⟩
    rcases List.mem_cons.1 hx with rfl | hx
    · omega
    · have := h2 x hx; omega

theorem blockLastUpto_law (c0 : List PV) (h0 : HasC (.int .i64) c0) (c1 : List PV) (h1 : HasC (.sl 2 (.struct [.int .i64, .str])) c1) (hw : (mkV (.int .i64) c0).wt + (mkV (.sl 2 (.struct [.int .i64, .str])) c1).wt ≤ 1048576) :
    SatCall Try.prog 5 [mkV (.int .i64) c0, mkV (.sl 2 (.struct [.int .i64, .str])) c1] [] fun r _ => r = .bool true := by
  obtain ⟨z, _, rfl⟩ := h0
  obtain ⟨es, rfl, _, he⟩ := h1
  obtain ⟨l, rfl, _⟩ := elems_of prt (fun a => a.2.size ≤ maxLen) dec_prt he
  obtain ⟨k1, k2⟩ := wt_prt l
  have hw' : wtAll (l.map prt) ≤ 1048576 := by simp only [mkV, PV.wt] at hw; omega
  exact (blockLast_sat z l (by omega) (fun x hx => by have := k2 x hx; omega) []).mono fun _ _ h => h.1

end Go.Proofs.Ytecleclpakiocaa.Pv
