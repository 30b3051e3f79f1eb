/- PaxosDeaf, PaxosCrashes: the walks; what comes in. -/
import Derived.Test.YtbhefogimhlkmaaPaxI
/- BUILD -/
/- FORCE: fieldAddr|nilCheck|bin|no2|un -/
namespace Go.Proofs.Ytbhefogimhlkmaa.Pv
open Go
set_option linter.unusedVariables false
set_option linter.unusedSimpArgs false
set_option maxRecDepth 100000

theorem deaf_sat (p : Rpl) (m : Ltr) (hp : RpOK p) (σ : Sto) : SatCall Try.prog 4 [rpl p, ltr m] σ fun x s => x = .bool true ∧ s = σ := by
  refine sat_fn tab Try.func4 rfl (Nat.le_of_ble_eq_true rfl) (by decide) fun hso => sat_base ?_
  have hs := sameP_sat p hp
  by_cases a1 : m.to = p.id
  · have d1 : (m.to == p.id) = true := by simp [a1]
    by_cases a2 : m.frm = p.id
    · have d2 : (m.frm != p.id) = false := by simp [a2]
      have hq := hearDeaf_sat p m (fun h => h.2.1 a2)
      repeat' (first | (apply og_ops; (first | (apply og_guard; (first | (apply ops_guard_t; exact (rfl : _ = some _); exact (rfl : _ = PV.bool _); (first | exact rfl | assumption)) | (apply ops_guard_f'; exact (rfl : _ = some _); exact (rfl : _ = PV.bool _); (first | exact rfl | assumption); exact ltn rfl))) | (apply og_move; (apply op_move (tt := tt); (focus ((conv => lhs; whnf); try exact rfl)); exact rfl)) | (apply og_assign; (apply op_assign (tt := tt); (focus ((conv => lhs; whnf); try exact rfl)); exact rfl)) | (apply og_callv; (first | (refine op_callP (tt := tt) cal6 (shown_sat _) rfl rfl rfl rfl rfl ?_) | (refine op_callP (tt := tt) cal8 (hq _) rfl rfl rfl rfl rfl ?_) | (refine op_callP (tt := tt) cal10 (hs _) rfl rfl rfl rfl rfl ?_))) | (apply og_bin; (apply op_bin true tab; (focus ((conv => lhs; whnf; arg 1; whnf; arg 2; whnf); try exact rfl)); (exact trivial); exact rfl)) | (apply og_pick; (apply op_pick (tt := tt); exact (rfl : _ = PV.bool _); (first | refine .inl ⟨rfl, ?_⟩ | refine .inr ⟨rfl, ?_⟩ | refine .inl ⟨by assumption, ?_⟩ | refine .inr ⟨by assumption, ?_⟩); (focus ((conv => lhs; whnf); try exact rfl)); exact ltn rfl)) | (apply og_load; (apply op_lk; (apply lk_loadX tab; exact rfl; exact rfl; exact rfl; (focus ((conv => lhs; whnf; arg 1; whnf; arg 2; whnf); try skip)); (first | exact trivial | exact Nat.le_of_ble_eq_true rfl)); (intro c h; cases h); exact rfl)) | (apply og_callb; (apply op_len tab; (focus ((conv => lhs; whnf; arg 1; whnf; arg 2; whnf); try exact rfl)); (exact trivial); exact rfl)) | (apply og_fieldAddr; (apply op_lk; (apply lk_fieldAddrB tab; exact rfl; (focus ((conv => lhs; whnf); try exact rfl)); exact rfl; (first | exact (rfl : _ = 0) | exact (rfl : _ = 1) | exact (rfl : _ = 2))); (intro c h; cases h); exact rfl)) | (apply og_extract; (apply op_extract (tt := tt); (focus ((conv => lhs; whnf; arg 1; whnf; arg 2; whnf); try exact rfl)); (exact trivial); exact rfl)) | (apply og_store; (apply op_storeX tab; exact rfl; exact rfl; exact rfl; exact rfl; exact rfl; exact rfl; exact rfl; exact rfl)) | (apply og_alloc; (apply op_allocX tab; exact rfl; exact rfl; (exact (rfl : _ = 2)); exact rfl)) | (apply og_box; (apply op_boxX (tt := tt); (focus ((conv => lhs; whnf); try exact rfl)); exact rfl; (first | exact (rfl : _ = 0) | exact (rfl : _ = 1)); exact rfl)) | (apply ops_nil))) | (apply og_sat; (first | (apply sat_seq) | (apply sat_region) | (apply sat_cond_f; exact rfl; (exact rfl)) | (apply sat_skip) | (apply sat_ret))) | (apply pe_norm))
      (change fnPost _ _ _ _ _ _ _; apply fn_endN; (exact .inr rfl); (focus (repeat' (first | (apply rr_tmp; (focus ((conv => lhs; whnf); try exact rfl)); (exact Wk.same _)) | exact rr_nil))); exact rfl; (exact rfl); exact Nat.le_refl _; (focus (repeat' (first | exact trivial | refine ⟨?_, ?_⟩))); exact hso)
      exact ⟨rfl, rfl⟩
    · have d2 : (m.frm != p.id) = true := by simp [a2]
      by_cases a3 : 0 ≤ m.frm
      · have d3 : decide (m.frm ≥ 0) = true := decide_eq_true a3
        have d3' : decide (0 ≤ m.frm) = true := d3
        by_cases a4 : m.frm ≤ 2
        · have d4 : decide (m.frm ≤ 2) = true := decide_eq_true a4
          repeat' (first | (apply og_ops; (first | (apply og_guard; (apply ops_guard_t; exact (rfl : _ = some _); exact (rfl : _ = PV.bool _); (assumption))) | (apply og_move; (apply op_move (tt := tt); (focus ((conv => lhs; whnf); try exact rfl)); exact rfl)) | (apply og_assign; (apply op_assign (tt := tt); (focus ((conv => lhs; whnf); try exact rfl)); exact rfl)) | (apply og_callv; (refine op_callP (tt := tt) cal6 (shown_sat _) rfl rfl rfl rfl rfl ?_)) | (apply og_bin; (apply op_bin true tab; (focus ((conv => lhs; whnf; arg 1; whnf; arg 2; whnf); try exact rfl)); (exact trivial); exact rfl)) | (apply og_pick; (apply op_pick (tt := tt); exact (rfl : _ = PV.bool _); (refine .inl ⟨by assumption, ?_⟩); (focus ((conv => lhs; whnf); try exact rfl)); exact ltn rfl)) | (apply og_load; (apply op_lk; (apply lk_loadX tab; exact rfl; exact rfl; exact rfl; (focus ((conv => lhs; whnf; arg 1; whnf; arg 2; whnf); try skip)); (exact trivial)); (intro c h; cases h); exact rfl)) | (apply og_fieldAddr; (apply op_lk; (apply lk_fieldAddrB tab; exact rfl; (focus ((conv => lhs; whnf); try exact rfl)); exact rfl; (first | exact (rfl : _ = 0) | exact (rfl : _ = 1) | exact (rfl : _ = 2))); (intro c h; cases h); exact rfl)) | (apply og_box; (apply op_boxX (tt := tt); (focus ((conv => lhs; whnf); try exact rfl)); exact rfl; (first | exact (rfl : _ = 0) | exact (rfl : _ = 1)); exact rfl)) | (apply ops_nil))) | (apply og_sat; (first | (apply sat_seq) | (apply sat_region) | (apply sat_cond_t; exact rfl; (assumption)) | (apply sat_ret))) | (apply pe_norm) | (apply pe_ret))
          (change fnPost _ _ _ _ _ _ _; apply fn_endN; (exact .inr rfl); (focus (repeat' (first | (apply rr_tmp; (focus ((conv => lhs; whnf); try exact rfl)); (exact Wk.same _)) | exact rr_nil))); exact rfl; (exact rfl); exact Nat.le_refl _; (focus (repeat' (first | exact trivial | refine ⟨?_, ?_⟩))); exact hso)
          exact ⟨rfl, rfl⟩
        · have d4 : decide (m.frm ≤ 2) = false := decide_eq_false a4
          have hq := hearDeaf_sat p m (fun h => a4 h.2.2.2)
          repeat' (first | (apply og_ops; (first | (apply og_guard; (apply ops_guard_t; exact (rfl : _ = some _); exact (rfl : _ = PV.bool _); (first | exact rfl | assumption))) | (apply og_move; (apply op_move (tt := tt); (focus ((conv => lhs; whnf); try exact rfl)); exact rfl)) | (apply og_assign; (apply op_assign (tt := tt); (focus ((conv => lhs; whnf); try exact rfl)); exact rfl)) | (apply og_callv; (first | (refine op_callP (tt := tt) cal6 (shown_sat _) rfl rfl rfl rfl rfl ?_) | (refine op_callP (tt := tt) cal8 (hq _) rfl rfl rfl rfl rfl ?_) | (refine op_callP (tt := tt) cal10 (hs _) rfl rfl rfl rfl rfl ?_))) | (apply og_bin; (apply op_bin true tab; (focus ((conv => lhs; whnf; arg 1; whnf; arg 2; whnf); try exact rfl)); (exact trivial); exact rfl)) | (apply og_pick; (apply op_pick (tt := tt); exact (rfl : _ = PV.bool _); (first | refine .inl ⟨rfl, ?_⟩ | refine .inl ⟨by assumption, ?_⟩); (focus ((conv => lhs; whnf); try exact rfl)); exact ltn rfl)) | (apply og_load; (apply op_lk; (apply lk_loadX tab; exact rfl; exact rfl; exact rfl; (focus ((conv => lhs; whnf; arg 1; whnf; arg 2; whnf); try skip)); (first | exact trivial | exact Nat.le_of_ble_eq_true rfl)); (intro c h; cases h); exact rfl)) | (apply og_callb; (apply op_len tab; (focus ((conv => lhs; whnf; arg 1; whnf; arg 2; whnf); try exact rfl)); (exact trivial); exact rfl)) | (apply og_fieldAddr; (apply op_lk; (apply lk_fieldAddrB tab; exact rfl; (focus ((conv => lhs; whnf); try exact rfl)); exact rfl; (first | exact (rfl : _ = 0) | exact (rfl : _ = 1) | exact (rfl : _ = 2))); (intro c h; cases h); exact rfl)) | (apply og_extract; (apply op_extract (tt := tt); (focus ((conv => lhs; whnf; arg 1; whnf; arg 2; whnf); try exact rfl)); (exact trivial); exact rfl)) | (apply og_store; (apply op_storeX tab; exact rfl; exact rfl; exact rfl; exact rfl; exact rfl; exact rfl; exact rfl; exact rfl)) | (apply og_alloc; (apply op_allocX tab; exact rfl; exact rfl; (exact (rfl : _ = 2)); exact rfl)) | (apply og_box; (apply op_boxX (tt := tt); (focus ((conv => lhs; whnf); try exact rfl)); exact rfl; (first | exact (rfl : _ = 0) | exact (rfl : _ = 1)); exact rfl)) | (apply ops_nil))) | (apply og_sat; (first | (apply sat_seq) | (apply sat_region) | (apply sat_cond_f; exact rfl; (assumption)) | (apply sat_skip) | (apply sat_ret))) | (apply pe_norm))
          (change fnPost _ _ _ _ _ _ _; apply fn_endN; (exact .inr rfl); (focus (repeat' (first | (apply rr_tmp; (focus ((conv => lhs; whnf); try exact rfl)); (exact Wk.same _)) | exact rr_nil))); exact rfl; (exact rfl); exact Nat.le_refl _; (focus (repeat' (first | exact trivial | refine ⟨?_, ?_⟩))); exact hso)
          exact ⟨rfl, rfl⟩
      · have d3 : decide (m.frm ≥ 0) = false := decide_eq_false a3
        have d3' : decide (0 ≤ m.frm) = false := d3
        have hq := hearDeaf_sat p m (fun h => a3 h.2.2.1)
        repeat' (first | (apply og_ops; (first | (apply og_guard; (first | (apply ops_guard_t; exact (rfl : _ = some _); exact (rfl : _ = PV.bool _); (first | exact rfl | assumption)) | (apply ops_guard_f'; exact (rfl : _ = some _); exact (rfl : _ = PV.bool _); (assumption); exact ltn rfl))) | (apply og_move; (apply op_move (tt := tt); (focus ((conv => lhs; whnf); try exact rfl)); exact rfl)) | (apply og_assign; (apply op_assign (tt := tt); (focus ((conv => lhs; whnf); try exact rfl)); exact rfl)) | (apply og_callv; (first | (refine op_callP (tt := tt) cal6 (shown_sat _) rfl rfl rfl rfl rfl ?_) | (refine op_callP (tt := tt) cal8 (hq _) rfl rfl rfl rfl rfl ?_) | (refine op_callP (tt := tt) cal10 (hs _) rfl rfl rfl rfl rfl ?_))) | (apply og_bin; (apply op_bin true tab; (focus ((conv => lhs; whnf; arg 1; whnf; arg 2; whnf); try exact rfl)); (exact trivial); exact rfl)) | (apply og_pick; (apply op_pick (tt := tt); exact (rfl : _ = PV.bool _); (first | refine .inl ⟨rfl, ?_⟩ | refine .inl ⟨by assumption, ?_⟩ | refine .inr ⟨by assumption, ?_⟩); (focus ((conv => lhs; whnf); try exact rfl)); exact ltn rfl)) | (apply og_load; (apply op_lk; (apply lk_loadX tab; exact rfl; exact rfl; exact rfl; (focus ((conv => lhs; whnf; arg 1; whnf; arg 2; whnf); try skip)); (first | exact trivial | exact Nat.le_of_ble_eq_true rfl)); (intro c h; cases h); exact rfl)) | (apply og_callb; (apply op_len tab; (focus ((conv => lhs; whnf; arg 1; whnf; arg 2; whnf); try exact rfl)); (exact trivial); exact rfl)) | (apply og_fieldAddr; (apply op_lk; (apply lk_fieldAddrB tab; exact rfl; (focus ((conv => lhs; whnf); try exact rfl)); exact rfl; (first | exact (rfl : _ = 0) | exact (rfl : _ = 1) | exact (rfl : _ = 2))); (intro c h; cases h); exact rfl)) | (apply og_extract; (apply op_extract (tt := tt); (focus ((conv => lhs; whnf; arg 1; whnf; arg 2; whnf); try exact rfl)); (exact trivial); exact rfl)) | (apply og_store; (apply op_storeX tab; exact rfl; exact rfl; exact rfl; exact rfl; exact rfl; exact rfl; exact rfl; exact rfl)) | (apply og_alloc; (apply op_allocX tab; exact rfl; exact rfl; (exact (rfl : _ = 2)); exact rfl)) | (apply og_box; (apply op_boxX (tt := tt); (focus ((conv => lhs; whnf); try exact rfl)); exact rfl; (first | exact (rfl : _ = 0) | exact (rfl : _ = 1)); exact rfl)) | (apply ops_nil))) | (apply og_sat; (first | (apply sat_seq) | (apply sat_region) | (apply sat_cond_f; exact rfl; (exact rfl)) | (apply sat_skip) | (apply sat_ret))) | (apply pe_norm))
        (change fnPost _ _ _ _ _ _ _; apply fn_endN; (exact .inr rfl); (focus (repeat' (first | (apply rr_tmp; (focus ((conv => lhs; whnf); try exact rfl)); (exact Wk.same _)) | exact rr_nil))); exact rfl; (exact rfl); exact Nat.le_refl _; (focus (repeat' (first | exact trivial | refine ⟨?_, ?_⟩))); exact hso)
        exact ⟨rfl, rfl⟩
  · have d1 : (m.to == p.id) = false := by simp [a1]
    have hq := hearDeaf_sat p m (fun h => a1 h.1)
    repeat' (first | (apply og_ops; (first | (apply og_guard; (first | (apply ops_guard_t; exact (rfl : _ = some _); exact (rfl : _ = PV.bool _); (exact rfl)) | (apply ops_guard_f'; exact (rfl : _ = some _); exact (rfl : _ = PV.bool _); (first | exact rfl | assumption); exact ltn rfl))) | (apply og_move; (apply op_move (tt := tt); (focus ((conv => lhs; whnf); try exact rfl)); exact rfl)) | (apply og_assign; (apply op_assign (tt := tt); (focus ((conv => lhs; whnf); try exact rfl)); exact rfl)) | (apply og_callv; (first | (refine op_callP (tt := tt) cal6 (shown_sat _) rfl rfl rfl rfl rfl ?_) | (refine op_callP (tt := tt) cal8 (hq _) rfl rfl rfl rfl rfl ?_) | (refine op_callP (tt := tt) cal10 (hs _) rfl rfl rfl rfl rfl ?_))) | (apply og_bin; (apply op_bin true tab; (focus ((conv => lhs; whnf; arg 1; whnf; arg 2; whnf); try exact rfl)); (exact trivial); exact rfl)) | (apply og_pick; (apply op_pick (tt := tt); exact (rfl : _ = PV.bool _); (first | refine .inl ⟨rfl, ?_⟩ | refine .inr ⟨rfl, ?_⟩ | refine .inr ⟨by assumption, ?_⟩); (focus ((conv => lhs; whnf); try exact rfl)); exact ltn rfl)) | (apply og_load; (apply op_lk; (apply lk_loadX tab; exact rfl; exact rfl; exact rfl; (focus ((conv => lhs; whnf; arg 1; whnf; arg 2; whnf); try skip)); (first | exact trivial | exact Nat.le_of_ble_eq_true rfl)); (intro c h; cases h); exact rfl)) | (apply og_callb; (apply op_len tab; (focus ((conv => lhs; whnf; arg 1; whnf; arg 2; whnf); try exact rfl)); (exact trivial); exact rfl)) | (apply og_fieldAddr; (apply op_lk; (apply lk_fieldAddrB tab; exact rfl; (focus ((conv => lhs; whnf); try exact rfl)); exact rfl; (first | exact (rfl : _ = 0) | exact (rfl : _ = 2))); (intro c h; cases h); exact rfl)) | (apply og_extract; (apply op_extract (tt := tt); (focus ((conv => lhs; whnf; arg 1; whnf; arg 2; whnf); try exact rfl)); (exact trivial); exact rfl)) | (apply og_store; (apply op_storeX tab; exact rfl; exact rfl; exact rfl; exact rfl; exact rfl; exact rfl; exact rfl; exact rfl)) | (apply og_alloc; (apply op_allocX tab; exact rfl; exact rfl; (exact (rfl : _ = 2)); exact rfl)) | (apply og_box; (apply op_boxX (tt := tt); (focus ((conv => lhs; whnf); try exact rfl)); exact rfl; (first | exact (rfl : _ = 0) | exact (rfl : _ = 1)); exact rfl)) | (apply ops_nil))) | (apply og_sat; (first | (apply sat_seq) | (apply sat_region) | (apply sat_cond_f; exact rfl; (exact rfl)) | (apply sat_skip) | (apply sat_ret))) | (apply pe_norm))
    (change fnPost _ _ _ _ _ _ _; apply fn_endN; (exact .inr rfl); (focus (repeat' (first | (apply rr_tmp; (focus ((conv => lhs; whnf); try exact rfl)); (exact Wk.same _)) | exact rr_nil))); exact rfl; (exact rfl); exact Nat.le_refl _; (focus (repeat' (first | exact trivial | refine ⟨?_, ?_⟩))); exact hso)
    exact ⟨rfl, rfl⟩

abbrev shVt : Shp := .struct [.int .i64, .int .u64, .str]
abbrev shTl : Shp := .struct [.int .i64, .sl 3 shVt]
abbrev shAk : Shp := .struct [.int .i64, .str, .int .u64]
abbrev shEn : Shp := .struct [.int .i64, .str]
abbrev shRp : Shp := .struct [.int .i64, .struct [.int .u64, .sl 3 shVt], .int .u64, .bool, .sl 2 shTl, .int .i64, .sl 3 shAk, .sl 1 .str, .sl 2 shEn, .int .i64]
abbrev shLt : Shp := .struct [.int .i64, .int .i64, .int .i64, .int .u64, .int .i64, .str, .sl 3 shVt]
theorem dec_rowP {α : Type} {e : Shp} (enc : α → PV) (hd : ∀ c, HasC e c → ∃ a, mkV e c = enc a ∧ c = (enc a).cells) {es : List PV} (h : ∀ x ∈ es, ∃ c, x = mkV e c ∧ HasC e c) : ∃ l : List α, es = l.map enc := by
  obtain ⟨l, h1, _⟩ := elems_of enc (fun _ => True) (fun c hc => let ⟨a, h, _⟩ := hd c hc; ⟨a, h, trivial⟩) h
  exact ⟨l, h1⟩
theorem dec_vtP (c : List PV) (h : HasC shVt c) : ∃ a : Vt, mkV shVt c = vt a ∧ c = (vt a).cells := by
  obtain ⟨_, _, rfl, ⟨a, _, rfl⟩, _, _, rfl, ⟨b, _, rfl⟩, _, _, rfl, ⟨s, _, rfl⟩, rfl⟩ := h
  exact ⟨(a, b, s), rfl, rfl⟩
theorem dec_tl (c : List PV) (h : HasC shTl c) : ∃ a : Tld, mkV shTl c = told a ∧ c = (told a).cells := by
  obtain ⟨_, _, rfl, ⟨a, _, rfl⟩, _, _, rfl, ⟨es, rfl, _, he⟩, rfl⟩ := h
  obtain ⟨l, rfl⟩ := dec_rowP vt dec_vtP he
  exact ⟨(a, l), rfl, rfl⟩
theorem dec_ak (c : List PV) (h : HasC shAk c) : ∃ a : Ackt, mkV shAk c = ack a ∧ c = (ack a).cells := by
  obtain ⟨_, _, rfl, ⟨a, _, rfl⟩, _, _, rfl, ⟨s, _, rfl⟩, _, _, rfl, ⟨b, _, rfl⟩, rfl⟩ := h
  exact ⟨(a, s, b), rfl, rfl⟩
theorem dec_en (c : List PV) (h : HasC shEn c) : ∃ a : Entt, mkV shEn c = ent a ∧ c = (ent a).cells := by
  obtain ⟨_, _, rfl, ⟨a, _, rfl⟩, _, _, rfl, ⟨s, _, rfl⟩, rfl⟩ := h
  exact ⟨(a, s), rfl, rfl⟩
theorem dec_st (c : List PV) (h : HasC .str c) : ∃ a : ByteArray, mkV .str c = PV.str a ∧ c = (PV.str a).cells := by
  obtain ⟨s, _, rfl⟩ := h
  exact ⟨s, rfl, rfl⟩
theorem dec_lt (c : List PV) (h : HasC shLt c) : ∃ a : Ltr, mkV shLt c = ltr a ∧ c = (ltr a).cells := by
  obtain ⟨_, _, rfl, ⟨a, _, rfl⟩, _, _, rfl, ⟨b, _, rfl⟩, _, _, rfl, ⟨d, _, rfl⟩, _, _, rfl, ⟨e, _, rfl⟩, _, _, rfl, ⟨f, _, rfl⟩, _, _, rfl, ⟨s, _, rfl⟩, _, _, rfl, ⟨es, rfl, _, he⟩, rfl⟩ := h
  obtain ⟨l, rfl⟩ := dec_rowP vt dec_vtP he
  exact ⟨⟨a, b, d, e, f, s, l⟩, rfl, rfl⟩
theorem dec_rp (c : List PV) (h : HasC shRp c) : ∃ a : Rpl, mkV shRp c = rpl a ∧ c = (rpl a).cells := by
  obtain ⟨_, _, rfl, ⟨i, _, rfl⟩, _, _, rfl, ⟨_, _, rfl, ⟨pr, _, rfl⟩, _, _, rfl, ⟨vs, rfl, _, hv⟩, rfl⟩, _, _, rfl, ⟨b, _, rfl⟩, _, _, rfl, ⟨ld, rfl⟩, _, _, rfl, ⟨gs, rfl, _, hg⟩, _, _, rfl, ⟨nx, _, rfl⟩, _, _, rfl, ⟨ks, rfl, _, hk⟩, _, _, rfl, ⟨os, rfl, _, ho⟩, _, _, rfl, ⟨es, rfl, _, he⟩, _, _, rfl, ⟨id, _, rfl⟩, rfl⟩ := h
  obtain ⟨l1, rfl⟩ := dec_rowP vt dec_vtP hv
  obtain ⟨l2, rfl⟩ := dec_rowP told dec_tl hg
  obtain ⟨l3, rfl⟩ := dec_rowP ack dec_ak hk
  obtain ⟨l4, rfl⟩ := dec_rowP PV.str dec_st ho
  obtain ⟨l5, rfl⟩ := dec_rowP ent dec_en he
  exact ⟨⟨i, (pr, l1), b, ld, l2, nx, l3, l4, l5, id⟩, rfl, rfl⟩
theorem wt_minP {α : Type} {f : α → PV} {m : Nat} (h : ∀ x, m ≤ (f x).wt) : ∀ l : List α, m * l.length ≤ wtAll (l.map f)
  | [] => Nat.zero_le _
  | y :: r => by
    have h1 := wt_minP h r
    have h2 := h y
    simp only [List.map_cons, List.length_cons, wtAll, Nat.mul_add, Nat.mul_one]; omega
theorem wt_memP {α : Type} {f : α → PV} {x : α} : ∀ {l : List α}, x ∈ l → (f x).wt ≤ wtAll (l.map f)
  | y :: r, h => by
    simp only [List.map_cons, wtAll]
    rcases List.mem_cons.1 h with rfl | h
    · omega
    · have := wt_memP (f := f) h; omega
theorem rpOK_of {p : Rpl} (h : (rpl p).wt ≤ 1048576) : RpOK p := by
  simp only [rpl, PV.wt, wtAll] at h
  have h1 := wt_minP (f := vt) (m := 1) (fun v => by simp only [vt, PV.wt, wtAll]; omega) p.a.2
  have h2 := wt_minP (f := told) (m := 1) (fun v => by simp only [told, PV.wt, wtAll]; omega) p.got
  have h3 := wt_minP (f := ack) (m := 4) (fun v => by simp only [ack, PV.wt, wtAll]; omega) p.acks
  have h4 := wt_minP (f := PV.str) (m := 1) (fun v => by simp only [PV.wt]; omega) p.log
  have h5 := wt_minP (f := ent) (m := 1) (fun v => by simp only [ent, PV.wt, wtAll]; omega) p.ahead
  refine ⟨by omega, by omega, fun t ht => ?_, by omega, by omega, by omega⟩
  have h6 := wt_memP (f := told) ht
  simp only [told, PV.wt, wtAll] at h6
  have h7 := wt_minP (f := vt) (m := 1) (fun v => by simp only [vt, PV.wt, wtAll]; omega) t.2
  omega

theorem paxosDeafUpto_law (c0 : List PV) (h0 : HasC shRp c0) (c1 : List PV) (h1 : HasC shLt c1) (hw : (mkV shRp c0).wt + (mkV shLt c1).wt ≤ 1048576) :
    SatCall Try.prog 4 [mkV shRp c0, mkV shLt c1] [] fun r _ => r = .bool true := by
  obtain ⟨p, e, _⟩ := dec_rp c0 h0
  obtain ⟨m, e2, _⟩ := dec_lt c1 h1
  rw [e, e2] at hw ⊢
  exact (deaf_sat p m (rpOK_of (by omega)) []).mono fun _ _ h => h.1

end Go.Proofs.Ytbhefogimhlkmaa.Pv
