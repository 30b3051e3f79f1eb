/- PlanFills. -/
import Derived.Test.YtenmnbjhebmpjaaPlnO
import Derived.Test.YtenmnbjhebmpjaaPlnL
namespace Go.Proofs.Ytenmnbjhebmpjaa.Pv
open Go
set_option linter.unusedVariables false
set_option linter.unusedSimpArgs false
set_option maxRecDepth 100000

theorem layStep_some {b b' : List Int} {x : Int × ByteArray} (h : layStep b x = some b') : (0 ≤ x.1 ∧ 0 ≤ (x.2.size : Int) ∧ x.1 ≤ b.length ∧ (x.2.size : Int) ≤ b.length - x.1) ∧ b' = ovl b x.1.toNat (bi x.2) := by
  unfold layStep at h
  split at h
  · rename_i hw
    cases h
    exact ⟨of_decide_eq_true hw, rfl⟩
  · cases h

theorem layI_cons {b b' : List Int} {x : Int × ByteArray} {r : List (Int × ByteArray)} (h : layI b (x :: r) = some b') : ∃ b1, layStep b x = some b1 ∧ layI b1 r = some b' := by
  simp only [layI, List.foldlM_cons] at h
  cases h1 : layStep b x with
  | none => rw [h1] at h; cases h
  | some b1 => rw [h1] at h; exact ⟨b1, rfl, h⟩

theorem layI_all : ∀ (l : List (Int × ByteArray)) {b b' : List Int}, layI b l = some b' → ∀ x ∈ l, 0 ≤ x.1 ∧ 0 ≤ (x.2.size : Int) ∧ x.1 ≤ b.length ∧ (x.2.size : Int) ≤ b.length - x.1
  | [], _, _, _, x, hx => by cases hx
  | y :: r, b, b', h, x, hx => by
    obtain ⟨b1, h1, h2⟩ := layI_cons h
    rcases List.mem_cons.1 hx with rfl | hx
    · exact (layStep_some h1).1
    · have := layI_all r h2 x hx
      rw [layStep_len h1] at this; exact this

/-- Does a part reach a place? -/
def hitS (i : Nat) (s : Int × Int) : Bool := decide (s.1 ≤ (i : Int)) && decide ((i : Int) - s.1 < s.2)
def spn (x : Int × ByteArray) : Int × Int := (x.1, x.2.size)

theorem layI_out : ∀ (l : List (Int × ByteArray)) {b b' : List Int} {i : Nat}, layI b l = some b' → (l.map spn).any (hitS i) = false → b'.getD i 0 = b.getD i 0
  | [], b, b', i, h, _ => by simp [layI] at h; rw [h]
  | x :: r, b, b', i, h, hn => by
    obtain ⟨b1, h1, h2⟩ := layI_cons h
    simp only [List.map_cons, List.any_cons, Bool.or_eq_false_iff] at hn
    rw [layI_out r h2 hn.2]
    obtain ⟨⟨w1, w2, w3, w4⟩, rfl⟩ := layStep_some h1
    have hx : ¬ (x.1 ≤ (i : Int)) ∨ ¬ ((i : Int) - x.1 < (x.2.size : Int)) := by
      have := hn.1
      rw [hitS, Bool.and_eq_false_iff, decide_eq_false_iff_not, decide_eq_false_iff_not] at this
      exact this
    simp only [List.getD]
    rw [ovl_get (by rw [bi_len]; omega), bi_len, if_neg (by omega)]

theorem layI_bytes : ∀ (l : List (Int × ByteArray)) {b b' : List Int}, layI b l = some b' → (∀ y ∈ b, 0 ≤ y ∧ y ≤ 255) → ∀ y ∈ b', 0 ≤ y ∧ y ≤ 255
  | [], b, b', h, hb => by simp [layI] at h; rw [← h]; exact hb
  | x :: r, b, b', h, hb => by
    obtain ⟨b1, h1, h2⟩ := layI_cons h
    refine layI_bytes r h2 ?_
    obtain ⟨_, rfl⟩ := layStep_some h1
    intro y hy
    simp only [ovl, List.mem_append] at hy
    rcases hy with (hy | hy) | hy
    · exact hb y (List.mem_of_mem_take hy)
    · exact bi_mem hy
    · exact hb y (List.mem_of_mem_drop hy)

theorem lay_ext {b b' : List Int} {l : List (Int × ByteArray)} {x : Int × ByteArray} (h : layI b (l ++ [x]) = some b') (hb : ∀ y ∈ b, 0 ≤ y ∧ y ≤ 255) : (ofI b').extract x.1.toNat (x.1 + (x.2.size : Int)).toNat = x.2 := by
  have hby := layI_bytes _ h hb
  rw [layI_snoc] at h
  cases h1 : layI b l with
  | none => rw [h1] at h; cases h
  | some b1 =>
    rw [h1, Option.bind_some] at h
    obtain ⟨⟨w1, w2, w3, w4⟩, e⟩ := layStep_some h
    have hl := layStep_len h
    refine bi_inj ?_
    obtain ⟨o, ho⟩ : ∃ o : Nat, x.1 = o := ⟨x.1.toNat, by omega⟩
    rw [ho] at w3 w4 e ⊢
    rw [bi_extract, bi_ofI hby, Int.toNat_natCast, show ((o : Int) + (x.2.size : Int)).toNat = o + x.2.size by omega]
    rw [Int.toNat_natCast] at e
    refine List.ext_getElem? fun j => ?_
    rw [List.getElem?_drop, List.getElem?_take]
    by_cases hj : j < x.2.size
    · rw [if_pos (by omega), e, ovl_get (by rw [bi_len]; omega), if_pos (by rw [bi_len]; omega), Nat.add_sub_cancel_left]
    · rw [if_neg (by omega), List.getElem?_eq_none (by rw [bi_len]; omega)]

theorem part_at {hv : List (Int × ByteArray)} {s : Int × Int} (h : ¬ partI hv s < 0) : spn (hv.getD (partI hv s).toNat default) = s := by
  rcases idx_cases (partB s) hv with ⟨h1, _⟩ | ⟨i, y, h1, h2, h3, _⟩
  · unfold partI at h; omega
  · have e : hv.getD (partI hv s).toNat default = y := by
      unfold partI; rw [h1, Int.toNat_natCast, List.getD_eq_getElem?_getD, h2]; rfl
    rw [e]
    simp only [partB, Bool.and_eq_true, beq_iff_eq] at h3
    exact Prod.ext h3.1 h3.2
theorem fillL_spn {hv : List (Int × ByteArray)} : ∀ (ps : List (Int × Int)) (b l : List (Int × ByteArray)), ps.foldlM (fillStep hv) b = some l → l.map spn = b.map spn ++ ps
  | [], b, l, h => by simp at h; subst h; simp
  | s :: r, b, l, h => by
    simp only [List.foldlM_cons] at h
    cases h1 : fillStep hv b s with
    | none => rw [h1] at h; cases h
    | some b1 =>
      rw [h1] at h
      rw [fillL_spn r b1 l h]
      unfold fillStep at h1
      split at h1
      · cases h1
      · rename_i hn
        cases h1
        rw [List.map_append, List.map_cons, List.map_nil, part_at hn, List.append_assoc]; rfl

/-- What a content that is filled is. -/
structure Filled (v : Vl) (hv : List (Int × ByteArray)) (s : ByteArray) : Prop where
  size : s.size = 160
  all : ∀ p ∈ v.parts, 0 ≤ p.1 ∧ 0 ≤ p.2 ∧ p.1 ≤ 160 ∧ p.2 ≤ 160 - p.1
  zero : ∀ i, i < 160 → v.parts.any (hitS i) = false → bt s ((i : Nat) : Int) = 0
  last : ∀ p ps, v.parts = ps ++ [p] → 0 ≤ partI hv p ∧ s.extract p.1.toNat (p.1 + p.2).toNat = (hv.getD (partI hv p).toNat default).2

theorem filled {v : Vl} {hv : List (Int × ByteArray)} (h : (contP v hv).2 = 0) : Filled v hv (contP v hv).1 := by
  unfold contP at h ⊢
  cases hl : fillL hv v.parts with
  | none => rw [hl] at h; cases h
  | some l =>
    rw [hl] at h
    dsimp only at h ⊢
    have hsp : l.map spn = v.parts := by have := fillL_spn v.parts [] l hl; simpa using this
    obtain ⟨b, hb⟩ : ∃ b, layI (List.replicate 160 0) l = some b := by
      rw [layP, if_neg (by omega)] at h
      cases h' : layI (List.replicate 160 0) l with
      | none => rw [show (160 : Int).toNat = 160 from rfl, h'] at h; cases h
      | some b => exact ⟨b, rfl⟩
    have hP : layP 160 l = (ofI b, 0) := by rw [layP, if_neg (by omega), show (160 : Int).toNat = 160 from rfl, hb]
    have hbN : b.length = 160 := by rw [layI_len _ hb]; simp
    rw [hP]
    refine ⟨by rw [ofI_size, hbN], fun p hp => ?_, fun i hi hn => ?_, fun p ps e => ?_⟩
    · rw [← hsp] at hp
      obtain ⟨x, hx, rfl⟩ := List.mem_map.1 hp
      have := layI_all l hb x hx
      rw [List.length_replicate] at this
      exact this
    · rw [bt_bi, Int.toNat_natCast, bi_ofI (layI_bytes _ hb (fun y hy => by rw [List.mem_replicate] at hy; omega)), layI_out l hb (by rw [hsp]; exact hn), List.getD_eq_getElem?_getD, List.getElem?_replicate, if_pos hi]; rfl
    · rw [e, fillL_snoc] at hl
      cases h1 : fillL hv ps with
      | none => rw [h1] at hl; cases hl
      | some l1 =>
        rw [h1, Option.bind_some] at hl
        unfold fillStep at hl
        split at hl
        · cases hl
        · rename_i hn
          cases hl
          refine ⟨by omega, ?_⟩
          have := lay_ext hb (fun y hy => by rw [List.mem_replicate] at hy; omega)
          have e2 := part_at hn
          have e3 : (hv.getD (partI hv p).toNat default).1 = p.1 := congrArg Prod.fst e2
          have e4 : ((hv.getD (partI hv p).toNat default).2.size : Int) = p.2 := congrArg Prod.snd e2
          rw [e3, e4] at this
          exact this

def hitT (ps : List (Int × Int)) (i j : Nat) : Bool := (ps.take j).any (hitS i)
theorem hitT_succ {ps : List (Int × Int)} {j : Nat} (i : Nat) (h : j < ps.length) : hitT ps i (j + 1) = (hitT ps i j || hitS i (ps.getD j default)) := by
  rw [hitT, hitT, List.take_succ_eq_append_getElem h, List.any_append]; simp [List.getD, h]

set_option maxHeartbeats 2000000 in
theorem planFills_sat (v : Vl) (hv : List (Int × ByteArray)) (hpa : v.parts.length ≤ 1048576) (hl : hv.length ≤ 1048576) (hsz : ∀ y ∈ hv, y.2.size ≤ 1048576) (σ : Sto) : SatCall Try.prog 6 [vl v, .sl .sh 2 (hv.map prt)] σ fun r σ' => r = .bool true ∧ σ' = σ := by
  refine sat_fn tab Try.func6 rfl (Nat.le_of_ble_eq_true rfl) (by decide) fun hso => sat_base ?_
  have q4 := fill_sat v hv hpa hl
  by_cases he : (contP v hv).2 = 0
  · have hF := filled he
    rw [he] at q4
    generalize (contP v hv).1 = s at *
    have d1 : ((s.size : Int) != 160) = false := by rw [hF.size]; rfl
    have hs160 := hF.size
    repeat' (first | (apply og_ops; (first | (apply og_move; (apply op_move (tt := tt); (focus ((conv => lhs; whnf); try exact rfl)); exact rfl)) | (apply og_assign; (apply op_assign (tt := tt); (focus ((conv => lhs; whnf); try exact rfl)); exact rfl)) | (apply og_callv; (first | (refine op_callP (tt := tt) cal9 (shown_sat _) rfl rfl rfl rfl rfl ?_) | (refine op_callP (tt := tt) cal15 (q4 _) rfl rfl rfl rfl rfl ?_))) | (apply og_bin; (apply op_bin true tab; (focus ((conv => lhs; whnf; arg 1; whnf; arg 2; whnf); try exact rfl)); (exact trivial); exact rfl)) | (apply og_load; (apply op_lk; (apply lk_loadX tab; exact rfl; exact rfl; exact rfl; (focus ((conv => lhs; whnf; arg 1; whnf; arg 2; whnf); try skip)); (exact Nat.le_of_ble_eq_true rfl)); (intro c h; cases h); exact rfl)) | (apply og_callb; (apply op_len tab; (focus ((conv => lhs; whnf; arg 1; whnf; arg 2; whnf); try exact rfl)); (exact trivial); exact rfl)) | (apply og_extract; (apply op_extract (tt := tt); (focus ((conv => lhs; whnf; arg 1; whnf; arg 2; whnf); try exact rfl)); (exact trivial); exact rfl)) | (apply og_box; (apply op_boxX (tt := tt); (focus ((conv => lhs; whnf); try exact rfl)); exact rfl; (exact (rfl : _ = 0)); exact rfl)) | (apply ops_nil))) | (apply og_sat; (first | (apply sat_seq) | (apply sat_region) | (apply sat_cond_f; exact rfl; (first | exact rfl | assumption)) | (apply sat_skip) | (apply sat_block))) | (apply pe_norm))
    refine sat_loopW (fun i : Nat => [(1, .sl .sh 2 (hv.map prt)), (2, .ptr (σ.length + 0) 0), (5, .bool true), (6, .str s), (8, .int .i64 i)]) (fun _ => _) (fun i => i ≤ 160) (fun i => 160 - i) 0 (Nat.zero_le _) ?_ rfl ?_
    · (repeat' (first | exact trivial | exact Wk.same _ | refine ⟨?_, ?_⟩))
    intro i hi
    by_cases hil : i < 160
    · have c1 : decide ((i : Int) < 160) = true := decide_eq_true (by omega)
      repeat' (first | (apply og_ops; (first | (apply og_move; (apply op_move (tt := tt); (focus ((conv => lhs; whnf); try exact rfl)); exact rfl)) | (apply og_assign; (apply op_assign (tt := tt); (focus ((conv => lhs; whnf); try exact rfl)); exact rfl)) | (apply og_bin; (apply op_bin true tab; (focus ((conv => lhs; whnf; arg 1; whnf; arg 2; whnf); try exact rfl)); (exact trivial); exact rfl)) | (apply ops_nil))) | (apply og_sat; (first | (apply sat_seq) | (apply sat_region) | (apply sat_cond_t; exact rfl; (assumption)) | (apply sat_skip) | (apply sat_block))) | (apply pe_norm))
      refine sat_loopW (fun j : Nat => [(1, .sl .sh 2 (hv.map prt)), (2, .ptr (σ.length + 0) 0), (5, .bool true), (6, .str s), (8, .int .i64 i), (9, .bool (hitT v.parts i j)), (10, .int .i64 j)]) (fun _ => _) (fun j => j ≤ v.parts.length) (fun j => v.parts.length - j) 0 (Nat.zero_le _) ?_ rfl ?_
      · (repeat' (first | exact trivial | exact Wk.same _ | refine ⟨?_, ?_⟩))
      intro j hj
      by_cases hjl : j < v.parts.length
      · have c2 : decide ((j : Int) < (v.parts.length : Int)) = true := decide_eq_true (by omega)
        have hs2 := hitT_succ (ps := v.parts) i hjl
        obtain ⟨w1, w2, w3, w4⟩ := hF.all _ (getD_memL hjl)
        cases hh : hitT v.parts i j with
        | true =>
          rw [hh, Bool.true_or] at hs2
          repeat' (first | (apply og_ops; (first | (apply og_guard; (first | (apply ops_guard_u; exact (rfl : _ = some _); exact rfl; exact ltn rfl) | (apply ops_guard_f'; exact (rfl : _ = some _); exact (rfl : _ = PV.bool _); (exact rfl); exact ltn rfl))) | (apply og_move; (apply op_move (tt := tt); (focus ((conv => lhs; whnf); try exact rfl)); exact rfl)) | (apply og_assign; (apply op_assign (tt := tt); (focus ((conv => lhs; whnf); try exact rfl)); exact rfl)) | (apply og_bin; (apply op_bin true tab; (focus ((conv => lhs; whnf; arg 1; whnf; arg 2; whnf); try exact rfl)); (first | exact trivial | (simp only [InR]; omega)); exact rfl)) | (apply og_pick; (apply op_pick (tt := tt); exact (rfl : _ = PV.bool _); (refine .inl ⟨rfl, ?_⟩); (focus ((conv => lhs; whnf); try exact rfl)); exact ltn rfl)) | (apply og_load; (apply op_lk; (apply lk_loadX tab; exact rfl; exact rfl; exact rfl; (focus ((conv => lhs; whnf; arg 1; whnf; arg 2; whnf); try skip)); (exact trivial)); (intro c h; cases h); exact rfl)) | (apply og_callb; (apply op_len tab; (focus ((conv => lhs; whnf; arg 1; whnf; arg 2; whnf); try exact rfl)); (exact trivial); exact rfl)) | (apply og_fieldAddr; (apply op_lk; (apply lk_fieldAddrB tab; exact rfl; (focus ((conv => lhs; whnf); try exact rfl)); exact rfl; (exact (rfl : _ = 5))); (intro c h; cases h); exact rfl)) | (apply ops_nil))) | (apply og_sat; (first | (apply sat_seq) | (apply sat_region) | (apply sat_cond_t; exact rfl; (simp only [List.length_map]; assumption)) | (apply sat_skip) | (apply sat_block) | (apply sat_drawC (k := 25); exact mixed; decide +kernel; decide +kernel))) | (apply pe_norm) | (apply pb_norm) | (apply og_dd; (first | (apply dd_lk; (apply lg_move; (apply lk_move (tt := tt); (focus ((conv => lhs; whnf); try exact rfl)))); exact rfl; exact rfl) | (apply dd_no2; exact (rfl : _ = some _); exact (rfl : _ = PV.bool _); (exact rfl); exact rfl) | (apply dd_un; exact (rfl : _ = some _); exact rfl; exact rfl) | (apply dd_nil))))
          refine ⟨j + 1, by omega, by omega, ?_, rfl⟩
          rw [hs2]
          (repeat' (first | exact trivial | exact Wk.same _ | refine ⟨?_, ?_⟩))
        | false =>
          rw [hh, Bool.false_or, hitS] at hs2
          by_cases hA : (v.parts.getD j default).1 ≤ (i : Int)
          · have a1 : decide ((v.parts.getD j default).1 ≤ (i : Int)) = true := decide_eq_true hA
            rw [a1, Bool.true_and] at hs2
            repeat' (first | (apply og_ops; (first | (apply og_guard; (apply ops_guard_t; exact (rfl : _ = some _); exact (rfl : _ = PV.bool _); (first | exact rfl | assumption))) | (apply og_move; (apply op_move (tt := tt); (focus ((conv => lhs; whnf); try exact rfl)); exact rfl)) | (apply og_assign; (apply op_assign (tt := tt); (focus ((conv => lhs; whnf); try exact rfl)); exact rfl)) | (apply og_bin; (apply op_bin true tab; (focus ((conv => lhs; whnf; arg 1; whnf; arg 2; whnf); try exact rfl)); (first | exact trivial | (simp only [InR]; omega)); exact rfl)) | (apply og_pick; (apply op_pick (tt := tt); exact (rfl : _ = PV.bool _); (first | refine .inr ⟨rfl, ?_⟩ | refine .inl ⟨by assumption, ?_⟩); (focus ((conv => lhs; whnf); try exact rfl)); exact ltn rfl)) | (apply og_load; (apply op_lk; (apply lk_loadX tab; exact rfl; exact rfl; exact rfl; (focus ((conv => lhs; whnf; arg 1; whnf; arg 2; whnf); try skip)); (exact trivial)); (intro c h; cases h); exact rfl)) | (apply og_callb; (apply op_len tab; (focus ((conv => lhs; whnf; arg 1; whnf; arg 2; whnf); try exact rfl)); (exact trivial); exact rfl)) | (apply og_fieldAddr; (apply op_lk; (apply lk_fieldAddrB tab; exact rfl; (focus ((conv => lhs; whnf); try exact rfl)); exact rfl; (exact (rfl : _ = 5))); (intro c h; cases h); exact rfl)) | (apply ops_nil))) | (apply og_sat; (first | (apply sat_seq) | (apply sat_region) | (apply sat_cond_t; exact rfl; (simp only [List.length_map]; assumption)) | (apply sat_skip) | (apply sat_block) | (apply sat_drawC (k := 25); exact mixed; decide +kernel; decide +kernel))) | (apply pe_norm) | (apply pb_norm) | (apply og_dd; (first | (apply dd_lk; (apply lg_move; (apply lk_move (tt := tt); (focus ((conv => lhs; whnf); try exact rfl)))); exact rfl; exact rfl) | (apply dd_lkg; exact (rfl : _ = some _); exact (rfl : _ = PV.bool _); (first | exact rfl | assumption); (first | (apply lg_indexAddr; exact lk_indexMap (tI := 3) _ tab rfl (by (focus ((conv => lhs; whnf); try exact rfl))) (by (focus ((conv => lhs; whnf); try exact rfl))) rfl (by (omega)) (by (omega)) (by (focus ((conv => lhs; whnf); try exact rfl)))) | (apply lg_move; (apply lk_move (tt := tt); (focus ((conv => lhs; whnf); try exact rfl)))) | (apply lg_bin; (apply lk_bin true tab; (focus ((conv => lhs; whnf; arg 1; whnf; arg 2; whnf); try exact rfl)); (first | exact trivial | (simp [InR] at *; omega)))) | (apply lg_fieldAddr; (first | (apply lk_fieldAddrB tab; exact rfl; (focus ((conv => lhs; whnf); try exact rfl)); exact rfl; (exact (rfl : _ = 5))) | (apply lk_fieldAddrC tab; exact rfl; (focus ((conv => lhs; whnf); try exact rfl)); exact rfl; exact rfl; (focus ((conv => lhs; whnf); try exact rfl))))) | (apply lg_load; (first | (apply lk_loadX tab; exact rfl; exact rfl; exact rfl; (focus ((conv => lhs; whnf; arg 1; whnf; arg 2; whnf); try skip)); (exact trivial)) | (apply lk_load tab; (focus ((conv => lhs; whnf; arg 1; whnf; arg 2; whnf); try skip)); (exact trivial))))); exact rfl; exact rfl) | (apply dd_nil))))
            refine ⟨j + 1, by omega, by omega, ?_, rfl⟩
            rw [hs2]
            (repeat' (first | exact trivial | exact Wk.same _ | refine ⟨?_, ?_⟩))
          · have a1 : decide ((v.parts.getD j default).1 ≤ (i : Int)) = false := decide_eq_false hA
            rw [a1, Bool.false_and] at hs2
            repeat' (first | (apply og_ops; (first | (apply og_guard; (first | (apply ops_guard_t; exact (rfl : _ = some _); exact (rfl : _ = PV.bool _); (exact rfl)) | (apply ops_guard_f'; exact (rfl : _ = some _); exact (rfl : _ = PV.bool _); (assumption); exact ltn rfl))) | (apply og_move; (apply op_move (tt := tt); (focus ((conv => lhs; whnf); try exact rfl)); exact rfl)) | (apply og_assign; (apply op_assign (tt := tt); (focus ((conv => lhs; whnf); try exact rfl)); exact rfl)) | (apply og_bin; (apply op_bin true tab; (focus ((conv => lhs; whnf; arg 1; whnf; arg 2; whnf); try exact rfl)); (first | exact trivial | (simp only [InR]; omega)); exact rfl)) | (apply og_pick; (apply op_pick (tt := tt); exact (rfl : _ = PV.bool _); (first | refine .inr ⟨rfl, ?_⟩ | refine .inr ⟨by assumption, ?_⟩); (focus ((conv => lhs; whnf); try exact rfl)); exact ltn rfl)) | (apply og_load; (apply op_lk; (apply lk_loadX tab; exact rfl; exact rfl; exact rfl; (focus ((conv => lhs; whnf; arg 1; whnf; arg 2; whnf); try skip)); (exact trivial)); (intro c h; cases h); exact rfl)) | (apply og_callb; (apply op_len tab; (focus ((conv => lhs; whnf; arg 1; whnf; arg 2; whnf); try exact rfl)); (exact trivial); exact rfl)) | (apply og_fieldAddr; (apply op_lk; (apply lk_fieldAddrB tab; exact rfl; (focus ((conv => lhs; whnf); try exact rfl)); exact rfl; (exact (rfl : _ = 5))); (intro c h; cases h); exact rfl)) | (apply ops_nil))) | (apply og_sat; (first | (apply sat_seq) | (apply sat_region) | (apply sat_cond_t; exact rfl; (simp only [List.length_map]; assumption)) | (apply sat_skip) | (apply sat_block) | (apply sat_drawC (k := 25); exact mixed; decide +kernel; decide +kernel))) | (apply pe_norm) | (apply pb_norm) | (apply og_dd; (first | (apply dd_lk; (apply lg_move; (apply lk_move (tt := tt); (focus ((conv => lhs; whnf); try exact rfl)))); exact rfl; exact rfl) | (apply dd_no2; exact (rfl : _ = some _); exact (rfl : _ = PV.bool _); (assumption); exact rfl) | (apply dd_lkg; exact (rfl : _ = some _); exact (rfl : _ = PV.bool _); (exact rfl); (first | (apply lg_indexAddr; exact lk_indexMap (tI := 3) _ tab rfl (by (focus ((conv => lhs; whnf); try exact rfl))) (by (focus ((conv => lhs; whnf); try exact rfl))) rfl (by (omega)) (by (omega)) (by (focus ((conv => lhs; whnf); try exact rfl)))) | (apply lg_move; (apply lk_move (tt := tt); (focus ((conv => lhs; whnf); try exact rfl)))) | (apply lg_bin; (apply lk_bin true tab; (focus ((conv => lhs; whnf; arg 1; whnf; arg 2; whnf); try exact rfl)); (exact trivial))) | (apply lg_fieldAddr; (first | (apply lk_fieldAddrB tab; exact rfl; (focus ((conv => lhs; whnf); try exact rfl)); exact rfl; (exact (rfl : _ = 5))) | (apply lk_fieldAddrC tab; exact rfl; (focus ((conv => lhs; whnf); try exact rfl)); exact rfl; exact rfl; (focus ((conv => lhs; whnf); try exact rfl))))) | (apply lg_load; (first | (apply lk_loadX tab; exact rfl; exact rfl; exact rfl; (focus ((conv => lhs; whnf; arg 1; whnf; arg 2; whnf); try skip)); (exact trivial)) | (apply lk_load tab; (focus ((conv => lhs; whnf; arg 1; whnf; arg 2; whnf); try skip)); (exact trivial))))); exact rfl; exact rfl) | (apply dd_nil))))
            refine ⟨j + 1, by omega, by omega, ?_, rfl⟩
            rw [hs2]
            (repeat' (first | exact trivial | exact Wk.same _ | refine ⟨?_, ?_⟩))
      · have c2 : decide ((j : Int) < (v.parts.length : Int)) = false := decide_eq_false (by omega)
        have e : j = v.parts.length := by omega
        subst e
        cases hh : hitT v.parts i v.parts.length with
        | true =>
          repeat' (first | (apply og_ops; (first | (apply og_guard; (apply ops_guard_f'; exact (rfl : _ = some _); exact (rfl : _ = PV.bool _); (exact rfl); exact ltn rfl)) | (apply og_move; (apply op_move (tt := tt); (focus ((conv => lhs; whnf); try exact rfl)); exact rfl)) | (apply og_assign; (apply op_assign (tt := tt); (focus ((conv => lhs; whnf); try exact rfl)); exact rfl)) | (apply og_bin; (apply op_bin true tab; (focus ((conv => lhs; whnf; arg 1; whnf; arg 2; whnf); try exact rfl)); (first | exact trivial | (simp only [InR]; omega)); exact rfl)) | (apply og_pick; (apply op_pick (tt := tt); exact (rfl : _ = PV.bool _); (refine .inr ⟨rfl, ?_⟩); (focus ((conv => lhs; whnf); try exact rfl)); exact ltn rfl)) | (apply og_load; (apply op_lk; (apply lk_loadX tab; exact rfl; exact rfl; exact rfl; (focus ((conv => lhs; whnf; arg 1; whnf; arg 2; whnf); try skip)); (exact trivial)); (intro c h; cases h); exact rfl)) | (apply og_callb; (apply op_len tab; (focus ((conv => lhs; whnf; arg 1; whnf; arg 2; whnf); try exact rfl)); (exact trivial); exact rfl)) | (apply og_fieldAddr; (apply op_lk; (apply lk_fieldAddrB tab; exact rfl; (focus ((conv => lhs; whnf); try exact rfl)); exact rfl; (exact (rfl : _ = 5))); (intro c h; cases h); exact rfl)) | (apply og_un; (apply op_un (tt := tt) true; (focus ((conv => lhs; whnf; arg 1; whnf; arg 2; whnf); try exact rfl)); (exact trivial); exact rfl)) | (apply ops_nil))) | (apply og_sat; (first | (apply sat_seq) | (apply sat_region) | (apply sat_cond_f; exact rfl; (first | exact rfl | (simp only [List.length_map]; assumption))) | (apply sat_skip) | (apply sat_exit))) | (apply pe_norm) | (apply pb_norm) | (apply pe_exit) | (apply pb_same))
          refine ⟨i + 1, by omega, by omega, ?_, rfl⟩
          (repeat' (first | exact trivial | exact Wk.same _ | refine ⟨?_, ?_⟩))
        | false =>
          have hz : (bt s ((i : Nat) : Int) != 0) = false := by
            rw [hF.zero i hil (by rw [hitT, List.take_length] at hh; exact hh)]; rfl
          repeat' (first | (apply og_ops; (first | (apply og_guard; (apply ops_guard_t; exact (rfl : _ = some _); exact (rfl : _ = PV.bool _); (exact rfl))) | (apply og_move; (apply op_move (tt := tt); (focus ((conv => lhs; whnf); try exact rfl)); exact rfl)) | (apply og_assign; (apply op_assign (tt := tt); (focus ((conv => lhs; whnf); try exact rfl)); exact rfl)) | (apply og_bin; (apply op_bin true tab; (focus ((conv => lhs; whnf; arg 1; whnf; arg 2; whnf); try exact rfl)); (first | exact trivial | (simp only [InR]; omega)); exact rfl)) | (apply og_pick; (apply op_pick (tt := tt); exact (rfl : _ = PV.bool _); (refine .inl ⟨rfl, ?_⟩); (focus ((conv => lhs; whnf); try exact rfl)); exact ltn rfl)) | (apply og_load; (apply op_lk; (apply lk_loadX tab; exact rfl; exact rfl; exact rfl; (focus ((conv => lhs; whnf; arg 1; whnf; arg 2; whnf); try skip)); (exact trivial)); (intro c h; cases h); exact rfl)) | (apply og_callb; (apply op_len tab; (focus ((conv => lhs; whnf; arg 1; whnf; arg 2; whnf); try exact rfl)); (exact trivial); exact rfl)) | (apply og_fieldAddr; (apply op_lk; (apply lk_fieldAddrB tab; exact rfl; (focus ((conv => lhs; whnf); try exact rfl)); exact rfl; (exact (rfl : _ = 5))); (intro c h; cases h); exact rfl)) | (apply og_un; (apply op_un (tt := tt) true; (focus ((conv => lhs; whnf; arg 1; whnf; arg 2; whnf); try exact rfl)); (exact trivial); exact rfl)) | (apply og_index; (apply op_index tab (tI := 3); (focus ((conv => lhs; whnf; arg 1; whnf; arg 2; whnf); try exact rfl)); (omega); exact rfl)) | (apply ops_nil))) | (apply og_sat; (first | (apply sat_seq) | (apply sat_region) | (apply sat_cond_f; exact rfl; (first | assumption | (simp only [List.length_map]; assumption))) | (apply sat_skip) | (apply sat_exit))) | (apply pe_norm) | (apply pb_norm) | (apply pe_exit) | (apply pb_same))
          refine ⟨i + 1, by omega, by omega, ?_, rfl⟩
          (repeat' (first | exact trivial | exact Wk.same _ | refine ⟨?_, ?_⟩))
    have c1 : decide ((i : Int) < 160) = false := decide_eq_false (by omega)
    clear hil hi
    by_cases hne : v.parts = []
    · have d2 : ((v.parts.length : Int) == 0) = true := by rw [hne]; rfl
      have d2m : (((v.parts.map plc).length : Int) == 0) = true := by rw [hne]; rfl
      repeat' (first | (apply og_ops; (first | (apply og_move; (apply op_move (tt := tt); (focus ((conv => lhs; whnf); try exact rfl)); exact rfl)) | (apply og_assign; (apply op_assign (tt := tt); (focus ((conv => lhs; whnf); try exact rfl)); exact rfl)) | (apply og_bin; (apply op_bin true tab; (focus ((conv => lhs; whnf; arg 1; whnf; arg 2; whnf); try exact rfl)); (exact trivial); exact rfl)) | (apply og_load; (apply op_lk; (apply lk_loadX tab; exact rfl; exact rfl; exact rfl; (focus ((conv => lhs; whnf; arg 1; whnf; arg 2; whnf); try skip)); (exact trivial)); (intro c h; cases h); exact rfl)) | (apply og_callb; (apply op_len tab; (focus ((conv => lhs; whnf; arg 1; whnf; arg 2; whnf); try exact rfl)); (exact trivial); exact rfl)) | (apply og_fieldAddr; (apply op_lk; (apply lk_fieldAddrB tab; exact rfl; (focus ((conv => lhs; whnf); try exact rfl)); exact rfl; (exact (rfl : _ = 5))); (intro c h; cases h); exact rfl)) | (apply ops_nil))) | (apply og_sat; (first | (apply sat_seq) | (apply sat_region) | (apply sat_cond_t; exact rfl; (assumption)) | (apply sat_cond_f; exact rfl; (assumption)) | (apply sat_ret) | (apply sat_exit))) | (apply pe_norm) | (apply pe_ret) | (apply pe_exit) | (apply pb_same))
      (change fnPost _ _ _ _ _ _ _; apply fn_endN; (exact .inr rfl); (focus (repeat' (first | (apply rr_tmp; (focus ((conv => lhs; whnf); try exact rfl)); (exact Wk.same _)) | exact rr_nil))); exact rfl; (exact rfl); exact Nat.le_refl _; (focus (repeat' (first | exact trivial | refine ⟨?_, ?_⟩))); exact hso)
      exact ⟨rfl, rfl⟩
    · have hpl : 0 < v.parts.length := List.length_pos_iff.2 hne
      have d2 : ((v.parts.length : Int) == 0) = false := by simp; exact hne
      have d2m : (((v.parts.map plc).length : Int) == 0) = false := by rw [List.length_map]; exact d2
      obtain ⟨ps, P, hPe⟩ : ∃ ps P, v.parts = ps ++ [P] := ⟨_, _, (List.dropLast_concat_getLast hne).symm⟩
      have hPg : v.parts.getD (((v.parts.length : Nat) : Int) - 1).toNat default = P := by
        rw [show (((v.parts.length : Nat) : Int) - 1).toNat = ps.length by rw [hPe, List.length_append]; simp, hPe, List.getD_eq_getElem?_getD, List.getElem?_concat_length]; rfl
      obtain ⟨k0, hex⟩ := hF.last P ps hPe
      obtain ⟨w1, w2, w3, w4⟩ := hF.all P (by rw [hPe]; simp)
      have hlt := idxI_ltL (p := partB P) (xs := hv) k0
      have hPg' : v.parts.getD ((((v.parts.map plc).length : Nat) : Int) - 1).toNat default = P := by rw [List.length_map]; exact hPg
      repeat' (first | (apply og_ops; (first | (apply og_move; (apply op_move (tt := tt); (focus ((conv => lhs; whnf); try exact rfl)); exact rfl)) | (apply og_assign; (apply op_assign (tt := tt); (focus ((conv => lhs; whnf); try exact rfl)); exact rfl)) | (apply og_bin; (apply op_bin true tab; (focus ((conv => lhs; whnf; arg 1; whnf; arg 2; whnf); try exact rfl)); (first | exact trivial | (simp only [decide_eq_true_eq, decide_eq_false_iff_not, List.length_map, InR, ne_eq] at *; omega)); exact rfl)) | (apply og_load; (first | (apply op_lk; (apply lk_loadX tab; exact rfl; exact rfl; exact rfl; (focus ((conv => lhs; whnf; arg 1; whnf; arg 2; whnf); try skip)); (exact trivial)); (intro c h; cases h); exact rfl) | (apply op_load tab; (focus ((conv => lhs; whnf; arg 1; whnf; arg 2; whnf); try skip)); (exact Nat.le_of_ble_eq_true rfl); exact rfl))) | (apply og_callb; (apply op_len tab; (focus ((conv => lhs; whnf; arg 1; whnf; arg 2; whnf); try exact rfl)); (exact trivial); exact rfl)) | (apply og_indexAddr; (refine op_indexMap (tI := 3) _ tab rfl (by (focus ((conv => lhs; whnf); try exact rfl))) (by (focus ((conv => lhs; whnf); try exact rfl))) rfl (by (simp only [List.length_map, List.length_cons, List.length_append, List.length_nil]; omega)) (by (simp only [List.length_map, List.length_cons, List.length_append, List.length_nil]; omega)) (by (focus ((conv => lhs; whnf); try exact rfl))) (ltn rfl) ?_)) | (apply og_fieldAddr; (apply op_lk; (apply lk_fieldAddrB tab; exact rfl; (focus ((conv => lhs; whnf); try exact rfl)); exact rfl; (exact (rfl : _ = 5))); (intro c h; cases h); exact rfl)) | (apply og_store; (apply op_storeX tab; exact rfl; exact rfl; exact rfl; exact rfl; exact rfl; exact rfl; exact rfl; exact rfl)) | (apply og_alloc; (apply op_allocX tab; exact rfl; exact rfl; (exact (rfl : _ = 1)); exact rfl)) | (apply ops_nil))) | (apply og_sat; (first | (apply sat_seq) | (apply sat_region) | (apply sat_cond_f; exact rfl; (assumption)) | (apply sat_skip) | (apply sat_block) | (apply sat_exit))) | (apply pe_norm) | (apply pe_exit) | (apply pb_same))
      refine sat_loopW (fun i : Nat => [(1, .sl .sh 2 (hv.map prt)), (5, .bool true), (6, .str s), (11, .ptr (σ.length + 1) 0), (12, .int .i64 i)]) (fun _ => σ ++ [.cells (vl v).cells, .cells [.int .i64 P.1, .int .i64 P.2]]) (fun i => i ≤ hv.length ∧ ∀ j, j < i → partB P (hv.getD j default) = false) (fun i => hv.length - i) 0 ⟨Nat.zero_le _, fun j hj => by omega⟩ ?_ ?_ ?_
      · (repeat' (first | exact trivial | exact Wk.same _ | refine ⟨?_, ?_⟩))
      · rw [← hPg']; rfl
      rintro i ⟨hi, hno⟩
      by_cases hil : i < hv.length
      · have c2 : decide ((i : Int) < (hv.length : Int)) = true := decide_eq_true (by omega)
        have hz := hsz _ (getD_memL hil)
        have step : partB P (hv.getD i default) = false → ∀ j, j < i + 1 → partB P (hv.getD j default) = false := fun e j hj => by
          by_cases e' : j = i
          · subst e'; exact e
          · exact hno j (by omega)
        by_cases p1 : (hv.getD i default).1 = P.1
        · have p1' : ((hv.getD i default).1 == P.1) = true := by simpa using p1
          by_cases p2 : ((hv.getD i default).2.size : Int) = P.2
          · have p2' : (((hv.getD i default).2.size : Int) == P.2) = true := by simpa using p2
            have hpb : partB P (hv.getD i default) = true := by rw [partB, p1', p2']; rfl
            have hI : partI hv P = (i : Int) := idx_hit hil hno hpb
            rw [hI, Int.toNat_natCast] at hex
            have k1 : beqS (s.extract P.1.toNat (P.1 + P.2).toNat) (hv.getD i default).2 = true := by rw [hex]; exact beqS_iff.2 rfl
            repeat' (first | (apply og_ops; (first | (apply og_guard; (apply ops_guard_t; exact (rfl : _ = some _); exact (rfl : _ = PV.bool _); (assumption))) | (apply og_move; (apply op_move (tt := tt); (focus ((conv => lhs; whnf); try exact rfl)); exact rfl)) | (apply og_assign; (apply op_assign (tt := tt); (focus ((conv => lhs; whnf); try exact rfl)); exact rfl)) | (apply og_bin; (apply op_bin true tab; (focus ((conv => lhs; whnf; arg 1; whnf; arg 2; whnf); try exact rfl)); (exact trivial); exact rfl)) | (apply og_pick; (apply op_pick (tt := tt); exact (rfl : _ = PV.bool _); (first | refine .inl ⟨rfl, ?_⟩ | refine .inl ⟨by assumption, ?_⟩); (focus ((conv => lhs; whnf); try exact rfl)); exact ltn rfl)) | (apply og_callb; (apply op_len tab; (focus ((conv => lhs; whnf; arg 1; whnf; arg 2; whnf); try exact rfl)); (exact trivial); exact rfl)) | (apply ops_nil))) | (apply og_sat; (first | (apply sat_seq) | (apply sat_region) | (apply sat_cond_t; exact rfl; (first | assumption | (simp only [List.length_map]; assumption))) | (apply sat_skip) | (apply sat_ret) | (apply sat_block) | (apply sat_drawC (k := 17); exact mixed; decide +kernel; decide +kernel))) | (apply pe_norm) | (apply pe_ret) | (apply pb_ret) | (apply og_dd; (first | (apply dd_lk; (first | (apply lg_indexAddr; exact lk_indexMap (tI := 3) _ tab rfl (by (focus ((conv => lhs; whnf); try exact rfl))) (by (focus ((conv => lhs; whnf); try exact rfl))) rfl (by (omega)) (by (omega)) (by (focus ((conv => lhs; whnf); try exact rfl)))) | (apply lg_move; (apply lk_move (tt := tt); (focus ((conv => lhs; whnf); try exact rfl)))) | (apply lg_bin; (apply lk_bin true tab; (focus ((conv => lhs; whnf; arg 1; whnf; arg 2; whnf); try exact rfl)); (exact trivial))) | (apply lg_fieldAddr; (first | (apply lk_fieldAddrB tab; exact rfl; (focus ((conv => lhs; whnf); try exact rfl)); exact rfl; (exact (rfl : _ = 0))) | (apply lk_fieldAddrC tab; exact rfl; (focus ((conv => lhs; whnf); try exact rfl)); exact rfl; exact rfl; (focus ((conv => lhs; whnf); try exact rfl))))) | (apply lg_load; (first | (apply lk_loadX tab; exact rfl; exact rfl; exact rfl; (focus ((conv => lhs; whnf; arg 1; whnf; arg 2; whnf); try skip)); (exact trivial)) | (apply lk_load tab; (focus ((conv => lhs; whnf; arg 1; whnf; arg 2; whnf); try skip)); (exact trivial))))); exact rfl; exact rfl) | (apply dd_lkg; exact (rfl : _ = some _); exact (rfl : _ = PV.bool _); (first | exact rfl | assumption); (first | (apply lg_indexAddr; exact lk_indexMap (tI := 3) _ tab rfl (by (focus ((conv => lhs; whnf); try exact rfl))) (by (focus ((conv => lhs; whnf); try exact rfl))) rfl (by (omega)) (by (omega)) (by (focus ((conv => lhs; whnf); try exact rfl)))) | (apply lg_move; (apply lk_move (tt := tt); (focus ((conv => lhs; whnf); try exact rfl)))) | (apply lg_bin; (apply lk_bin true tab; (focus ((conv => lhs; whnf; arg 1; whnf; arg 2; whnf); try exact rfl)); (first | exact trivial | (simp only [InR]; omega)))) | (apply lg_fieldAddr; (first | (apply lk_fieldAddrB tab; exact rfl; (focus ((conv => lhs; whnf); try exact rfl)); exact rfl; (first | exact (rfl : _ = 0) | exact (rfl : _ = 1))) | (apply lk_fieldAddrC tab; exact rfl; (focus ((conv => lhs; whnf); try exact rfl)); exact rfl; exact rfl; (focus ((conv => lhs; whnf); try exact rfl))))) | (apply lg_load; (first | (apply lk_loadX tab; exact rfl; exact rfl; exact rfl; (focus ((conv => lhs; whnf; arg 1; whnf; arg 2; whnf); try skip)); (exact trivial)) | (apply lk_load tab; (focus ((conv => lhs; whnf; arg 1; whnf; arg 2; whnf); try skip)); (exact trivial)))) | (apply lg_callb; (apply lk_len tab; (focus ((conv => lhs; whnf; arg 1; whnf; arg 2; whnf); try exact rfl)); (exact trivial))) | (apply lg_slice; (apply lk_slice tab; (focus ((conv => lhs; whnf; arg 1; whnf; arg 2; whnf); try exact rfl)); (omega)))); exact rfl; exact rfl) | (apply dd_nil))))
            (change fnPost _ _ _ _ _ _ _; apply fn_endN; (exact .inr rfl); (focus (repeat' (first | (apply rr_tmp; (focus ((conv => lhs; whnf); try exact rfl)); (exact Wk.same _)) | exact rr_nil))); exact rfl; (exact rfl); exact Nat.le_refl _; (focus (repeat' (first | exact trivial | refine ⟨?_, ?_⟩))); exact hso)
            exact ⟨by rw [show resOf _ = PV.bool _ from rfl]; congr 1, rfl⟩
          · have p2' : (((hv.getD i default).2.size : Int) == P.2) = false := by simpa using p2
            have hpb : partB P (hv.getD i default) = false := by rw [partB, p1', p2']; rfl
            repeat' (first | (apply og_ops; (first | (apply og_guard; (apply ops_guard_t; exact (rfl : _ = some _); exact (rfl : _ = PV.bool _); (assumption))) | (apply og_move; (apply op_move (tt := tt); (focus ((conv => lhs; whnf); try exact rfl)); exact rfl)) | (apply og_assign; (apply op_assign (tt := tt); (focus ((conv => lhs; whnf); try exact rfl)); exact rfl)) | (apply og_bin; (apply op_bin true tab; (focus ((conv => lhs; whnf; arg 1; whnf; arg 2; whnf); try exact rfl)); (first | exact trivial | (simp only [InR]; omega)); exact rfl)) | (apply og_pick; (apply op_pick (tt := tt); exact (rfl : _ = PV.bool _); (refine .inl ⟨by assumption, ?_⟩); (focus ((conv => lhs; whnf); try exact rfl)); exact ltn rfl)) | (apply og_callb; (apply op_len tab; (focus ((conv => lhs; whnf; arg 1; whnf; arg 2; whnf); try exact rfl)); (exact trivial); exact rfl)) | (apply ops_nil))) | (apply og_sat; (first | (apply sat_seq) | (apply sat_region) | (apply sat_cond_t; exact rfl; (simp only [List.length_map]; assumption)) | (apply sat_cond_f; exact rfl; (assumption)) | (apply sat_skip) | (apply sat_block) | (apply sat_drawC (k := 17); exact mixed; decide +kernel; decide +kernel))) | (apply pe_norm) | (apply pb_norm) | (apply og_dd; (first | (apply dd_lk; (first | (apply lg_indexAddr; exact lk_indexMap (tI := 3) _ tab rfl (by (focus ((conv => lhs; whnf); try exact rfl))) (by (focus ((conv => lhs; whnf); try exact rfl))) rfl (by (omega)) (by (omega)) (by (focus ((conv => lhs; whnf); try exact rfl)))) | (apply lg_move; (apply lk_move (tt := tt); (focus ((conv => lhs; whnf); try exact rfl)))) | (apply lg_bin; (apply lk_bin true tab; (focus ((conv => lhs; whnf; arg 1; whnf; arg 2; whnf); try exact rfl)); (exact trivial))) | (apply lg_fieldAddr; (first | (apply lk_fieldAddrB tab; exact rfl; (focus ((conv => lhs; whnf); try exact rfl)); exact rfl; (exact (rfl : _ = 0))) | (apply lk_fieldAddrC tab; exact rfl; (focus ((conv => lhs; whnf); try exact rfl)); exact rfl; exact rfl; (focus ((conv => lhs; whnf); try exact rfl))))) | (apply lg_load; (first | (apply lk_loadX tab; exact rfl; exact rfl; exact rfl; (focus ((conv => lhs; whnf; arg 1; whnf; arg 2; whnf); try skip)); (exact trivial)) | (apply lk_load tab; (focus ((conv => lhs; whnf; arg 1; whnf; arg 2; whnf); try skip)); (exact trivial))))); exact rfl; exact rfl) | (apply dd_lkg; exact (rfl : _ = some _); exact (rfl : _ = PV.bool _); (assumption); (first | (apply lg_indexAddr; exact lk_indexMap (tI := 3) _ tab rfl (by (focus ((conv => lhs; whnf); try exact rfl))) (by (focus ((conv => lhs; whnf); try exact rfl))) rfl (by (omega)) (by (omega)) (by (focus ((conv => lhs; whnf); try exact rfl)))) | (apply lg_move; (apply lk_move (tt := tt); (focus ((conv => lhs; whnf); try exact rfl)))) | (apply lg_fieldAddr; (first | (apply lk_fieldAddrB tab; exact rfl; (focus ((conv => lhs; whnf); try exact rfl)); exact rfl; (exact (rfl : _ = 1))) | (apply lk_fieldAddrC tab; exact rfl; (focus ((conv => lhs; whnf); try exact rfl)); exact rfl; exact rfl; (focus ((conv => lhs; whnf); try exact rfl))))) | (apply lg_load; (first | (apply lk_loadX tab; exact rfl; exact rfl; exact rfl; (focus ((conv => lhs; whnf; arg 1; whnf; arg 2; whnf); try skip)); (exact trivial)) | (apply lk_load tab; (focus ((conv => lhs; whnf; arg 1; whnf; arg 2; whnf); try skip)); (exact trivial)))) | (apply lg_callb; (apply lk_len tab; (focus ((conv => lhs; whnf; arg 1; whnf; arg 2; whnf); try exact rfl)); (exact trivial)))); exact rfl; exact rfl) | (apply dd_nil))))
            refine ⟨i + 1, ⟨by omega, step hpb⟩, by omega, ?_, rfl⟩
            (repeat' (first | exact trivial | exact Wk.same _ | refine ⟨?_, ?_⟩))
        · have p1' : ((hv.getD i default).1 == P.1) = false := by simpa using p1
          have hpb : partB P (hv.getD i default) = false := by rw [partB, p1']; rfl
          repeat' (first | (apply og_ops; (first | (apply og_guard; (apply ops_guard_f'; exact (rfl : _ = some _); exact (rfl : _ = PV.bool _); (assumption); exact ltn rfl)) | (apply og_move; (apply op_move (tt := tt); (focus ((conv => lhs; whnf); try exact rfl)); exact rfl)) | (apply og_assign; (apply op_assign (tt := tt); (focus ((conv => lhs; whnf); try exact rfl)); exact rfl)) | (apply og_bin; (apply op_bin true tab; (focus ((conv => lhs; whnf; arg 1; whnf; arg 2; whnf); try exact rfl)); (first | exact trivial | (simp only [InR]; omega)); exact rfl)) | (apply og_pick; (apply op_pick (tt := tt); exact (rfl : _ = PV.bool _); (refine .inr ⟨by assumption, ?_⟩); (focus ((conv => lhs; whnf); try exact rfl)); exact ltn rfl)) | (apply og_callb; (apply op_len tab; (focus ((conv => lhs; whnf; arg 1; whnf; arg 2; whnf); try exact rfl)); (exact trivial); exact rfl)) | (apply ops_nil))) | (apply og_sat; (first | (apply sat_seq) | (apply sat_region) | (apply sat_cond_t; exact rfl; (simp only [List.length_map]; assumption)) | (apply sat_cond_f; exact rfl; (exact rfl)) | (apply sat_skip) | (apply sat_block) | (apply sat_drawC (k := 17); exact mixed; decide +kernel; decide +kernel))) | (apply pe_norm) | (apply pb_norm) | (apply og_dd; (first | (apply dd_lk; (first | (apply lg_indexAddr; exact lk_indexMap (tI := 3) _ tab rfl (by (focus ((conv => lhs; whnf); try exact rfl))) (by (focus ((conv => lhs; whnf); try exact rfl))) rfl (by (omega)) (by (omega)) (by (focus ((conv => lhs; whnf); try exact rfl)))) | (apply lg_move; (apply lk_move (tt := tt); (focus ((conv => lhs; whnf); try exact rfl)))) | (apply lg_bin; (apply lk_bin true tab; (focus ((conv => lhs; whnf; arg 1; whnf; arg 2; whnf); try exact rfl)); (exact trivial))) | (apply lg_fieldAddr; (first | (apply lk_fieldAddrB tab; exact rfl; (focus ((conv => lhs; whnf); try exact rfl)); exact rfl; (exact (rfl : _ = 0))) | (apply lk_fieldAddrC tab; exact rfl; (focus ((conv => lhs; whnf); try exact rfl)); exact rfl; exact rfl; (focus ((conv => lhs; whnf); try exact rfl))))) | (apply lg_load; (first | (apply lk_loadX tab; exact rfl; exact rfl; exact rfl; (focus ((conv => lhs; whnf; arg 1; whnf; arg 2; whnf); try skip)); (exact trivial)) | (apply lk_load tab; (focus ((conv => lhs; whnf; arg 1; whnf; arg 2; whnf); try skip)); (exact trivial))))); exact rfl; exact rfl) | (apply dd_no2; exact (rfl : _ = some _); exact (rfl : _ = PV.bool _); (assumption); exact rfl) | (apply dd_nil))))
          refine ⟨i + 1, ⟨by omega, step hpb⟩, by omega, ?_, rfl⟩
          (repeat' (first | exact trivial | exact Wk.same _ | refine ⟨?_, ?_⟩))
      · exfalso
        have := idx_none (p := partB P) (xs := hv) fun j hj => hno j (by omega)
        unfold partI at k0
        omega
  · have d1 : ((contP v hv).2 != 0) = true := by simpa using he
    repeat' (first | (apply og_ops; (first | (apply og_move; (apply op_move (tt := tt); (focus ((conv => lhs; whnf); try exact rfl)); exact rfl)) | (apply og_assign; (apply op_assign (tt := tt); (focus ((conv => lhs; whnf); try exact rfl)); exact rfl)) | (apply og_callv; (first | (refine op_callP (tt := tt) cal9 (shown_sat _) rfl rfl rfl rfl rfl ?_) | (refine op_callP (tt := tt) cal15 (q4 _) rfl rfl rfl rfl rfl ?_))) | (apply og_bin; (apply op_bin true tab; (focus ((conv => lhs; whnf; arg 1; whnf; arg 2; whnf); try exact rfl)); (exact trivial); exact rfl)) | (apply og_load; (apply op_lk; (apply lk_loadX tab; exact rfl; exact rfl; exact rfl; (focus ((conv => lhs; whnf; arg 1; whnf; arg 2; whnf); try skip)); (exact Nat.le_of_ble_eq_true rfl)); (intro c h; cases h); exact rfl)) | (apply og_extract; (apply op_extract (tt := tt); (focus ((conv => lhs; whnf; arg 1; whnf; arg 2; whnf); try exact rfl)); (exact trivial); exact rfl)) | (apply og_box; (apply op_boxX (tt := tt); (focus ((conv => lhs; whnf); try exact rfl)); exact rfl; (exact (rfl : _ = 0)); exact rfl)) | (apply ops_nil))) | (apply og_sat; (first | (apply sat_seq) | (apply sat_region) | (apply sat_cond_t; exact rfl; (assumption)) | (apply sat_ret))) | (apply pe_norm) | (apply pe_ret))
    (change fnPost _ _ _ _ _ _ _; apply fn_endN; (exact .inr rfl); (focus (repeat' (first | (apply rr_tmp; (focus ((conv => lhs; whnf); try exact rfl)); (exact Wk.same _)) | exact rr_nil))); exact rfl; (exact rfl); exact Nat.le_refl _; (focus (repeat' (first | exact trivial | refine ⟨?_, ?_⟩))); exact hso)
    exact ⟨rfl, rfl⟩

theorem planFillsUpto_law (c0 : List PV) (h0 : HasC shVl c0) (c1 : List PV) (h1 : HasC (.sl 2 shPt) c1) (hw : (mkV shVl c0).wt + (mkV (.sl 2 shPt) c1).wt ≤ 1048576) :
    SatCall Try.prog 6 [mkV shVl c0, mkV (.sl 2 shPt) c1] [] fun r _ => r = .bool true := by
  obtain ⟨v, e, _⟩ := dec_vl c0 h0
  obtain ⟨es, rfl, _, he⟩ := h1
  obtain ⟨hv, rfl⟩ := dec_row prt dec_pt he
  rw [e] at hw ⊢
  have w2 := wt_plc v.parts
  obtain ⟨w4, w5⟩ := wt_pt hv
  have hw' : wtAll (v.parts.map plc) + wtAll (hv.map prt) ≤ 1048576 := by
    simp only [mkV, vl, PV.wt, wtAll] at hw ⊢; omega
  exact (planFills_sat v hv (by omega) (by omega) (fun y hy => by have := w5 y hy; omega) []).mono fun _ _ h => h.1

end Go.Proofs.Ytenmnbjhebmpjaa.Pv
