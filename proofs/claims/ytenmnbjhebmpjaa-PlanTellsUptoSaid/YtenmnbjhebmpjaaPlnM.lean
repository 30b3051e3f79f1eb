/- PlanNexts, PlanRests: the laws; what comes in as volumes, names, sessions, nodes. -/
import Derived.Test.YtenmnbjhebmpjaaPlnK
import Derived.Test.YtenmnbjhebmpjaaPlnL
namespace Go.Proofs.Ytenmnbjhebmpjaa.Pv
open Go
set_option linter.unusedVariables false
set_option linter.unusedSimpArgs false
set_option maxRecDepth 100000

theorem nextP_len (o : Option Ac) (h : ∀ a, o = some a → a.to.length ≤ 1000000) (r : Ac) (hr : r.to.length ≤ 1000000) : (match o with | some a => a | none => r).to.length ≤ 1000000 := by
  cases o with
  | some a => exact h a rfl
  | none => exact hr
theorem planP_len (x : Ix) (l : List Iv) (nodes : Int) : (planP x l nodes).to.length ≤ 1000000 := by
  unfold planP
  refine nextP_len _ (fun a h => ?_) _ (nextP_len _ (fun a h => ?_) _ (nextP_len _ (fun a h => ?_) _ (nextP_len _ (fun a h => ?_) _ (nextP_len _ (fun a h => ?_) _ (Nat.zero_le _)))))
  · obtain ⟨i, _, e⟩ := firstA_some h
    unfold repV at e
    split at e
    · cases e
    · split at e
      · cases e; exact Nat.le_of_ble_eq_true rfl
      · split at e
        · cases e; exact Nat.le_of_ble_eq_true rfl
        · cases e
  · obtain ⟨i, _, e⟩ := firstA_some h
    unfold encV at e
    split at e
    · cases e
      exact Nat.le_trans (spreadP_len _ _ _ _ _) (by decide)
    · cases e
  · obtain ⟨i, _, e⟩ := firstA_some h
    unfold pairI at e
    split at e
    · cases e
      exact Nat.le_trans (spreadP_len _ _ _ _ _) (by decide)
    · cases e
  · obtain ⟨i, _, e⟩ := firstA_some h
    unfold lockV at e
    split at e
    · cases e; exact Nat.le_of_ble_eq_true rfl
    · cases e
  · obtain ⟨i, _, e⟩ := firstA_some h
    obtain ⟨k, _, e⟩ := firstA_some e
    unfold dropK at e
    split at e
    · cases e; exact Nat.le_of_ble_eq_true rfl
    · cases e

theorem planNexts_sat (x : Ix) (l : List Iv) (nodes : Int) (hx : OkIx x) (hiv : okIv l) (σ : Sto) : SatCall Try.prog 3 [ix x, .sl .sh 4 (l.map iv), .int .i64 nodes] σ fun r σ' => r = .bool true ∧ σ' = σ := by
  refine sat_fn tab Try.func3 rfl (Nat.le_of_ble_eq_true rfl) (by decide) fun hso => sat_base ?_
  have h1 := planNext_sat x l nodes hx hiv
  have h2 := refNext16_sat x l nodes hx hiv
  have h3 := acSame_sat (planP x l nodes) (planP x l nodes) (planP_len x l nodes)
  rw [decide_eq_true rfl] at h3
  repeat' (first | (apply og_ops; (first | (apply og_guard; (apply ops_guard_t; exact (rfl : _ = some _); exact (rfl : _ = PV.bool _); (exact rfl))) | (apply og_move; (apply op_move (tt := tt); (focus ((conv => lhs; whnf); try exact rfl)); exact rfl)) | (apply og_assign; (apply op_assign (tt := tt); (focus ((conv => lhs; whnf); try exact rfl)); exact rfl)) | (apply og_callv; (first | (refine op_callP (tt := tt) cal9 (shown_sat _) rfl rfl rfl rfl rfl ?_) | (refine op_callP (tt := tt) cal12 (h2 _) rfl rfl rfl rfl rfl ?_) | (refine op_callP (tt := tt) cal10 (h3 _) rfl rfl rfl rfl rfl ?_))) | (apply og_pick; (apply op_pick (tt := tt); exact (rfl : _ = PV.bool _); (refine .inl ⟨rfl, ?_⟩); (focus ((conv => lhs; whnf); try exact rfl)); exact ltn rfl)) | (apply og_box; (apply op_boxX (tt := tt); (focus ((conv => lhs; whnf); try exact rfl)); exact rfl; (exact (rfl : _ = 0)); exact rfl)) | (apply ops_nil))) | (apply og_sat; (first | (apply sat_seq) | (apply sat_region) | (apply sat_ret) | (apply sat_drawC (k := 7); exact mixed; decide +kernel; decide +kernel))) | (apply pe_norm) | (apply og_dd; (first | (refine dd_cons (step_call (tt := tt) cal11 (h1 _) rfl rfl rfl rfl rfl) ?_) | (apply dd_lk; (first | (apply lg_move; (apply lk_move (tt := tt); (focus ((conv => lhs; whnf); try exact rfl)))) | (apply lg_load; (apply lk_loadX tab; exact rfl; exact rfl; exact rfl; (focus ((conv => lhs; whnf; arg 1; whnf; arg 2; whnf); try skip)); (exact Nat.le_of_ble_eq_true rfl)))); exact rfl; exact rfl) | (apply dd_nil))))
  (change fnPost _ _ _ _ _ _ _; apply fn_endN; (exact .inr rfl); (focus (repeat' (first | (apply rr_tmp; (focus ((conv => lhs; whnf); try exact rfl)); (exact Wk.same _)) | exact rr_nil))); exact rfl; (exact rfl); exact Nat.le_refl _; (focus (repeat' (first | exact trivial | refine ⟨?_, ?_⟩))); exact hso)
  exact ⟨rfl, rfl⟩

abbrev shPl : Shp := .struct [.int .i64, .int .i64]
abbrev shVl : Shp := .struct [.int .i64, .int .i64, .int .i64, .int .i64, .int .i64, .sl 2 shPl, .sl 2 shPl, .int .i64, .int .i64]
abbrev shNm : Shp := .struct [.str, .int .i64, .int .i64, .int .i64, .int .u32]
abbrev shSs : Shp := .struct [.int .i64, .int .i64, .struct [.int .i64, .int .i64, .int .i64, .int .i64, .int .u32, .bool]]
abbrev shIx : Shp := .struct [.sl 9 shVl, .sl 5 shNm, .sl 8 shSs]
abbrev shIv : Shp := .struct [shPl, .bool, .sl 2 shPl]

theorem dec_pl (c : List PV) (h : HasC shPl c) : ∃ p : Int × Int, mkV shPl c = plc p ∧ c = (plc p).cells := by
  obtain ⟨_, _, rfl, ⟨a, _, rfl⟩, _, _, rfl, ⟨b, _, rfl⟩, rfl⟩ := h
  exact ⟨(a, b), rfl, rfl⟩
theorem dec_row {α : Type} {e : Shp} (enc : α → PV) (hd : ∀ c, HasC e c → ∃ a, mkV e c = enc a ∧ c = (enc a).cells) {es : List PV} (h : ∀ x ∈ es, ∃ c, x = mkV e c ∧ HasC e c) : ∃ l : List α, es = l.map enc := by
  obtain ⟨l, h1, _⟩ := elems_of enc (fun _ => True) (fun c hc => let ⟨a, h, _⟩ := hd c hc; ⟨a, h, trivial⟩) h
  exact ⟨l, h1⟩
theorem dec_vl (c : List PV) (h : HasC shVl c) : ∃ v : Vl, mkV shVl c = vl v ∧ c = (vl v).cells := by
  obtain ⟨_, _, rfl, ⟨a, _, rfl⟩, _, _, rfl, ⟨b, _, rfl⟩, _, _, rfl, ⟨d, _, rfl⟩, _, _, rfl, ⟨e, _, rfl⟩, _, _, rfl, ⟨f, _, rfl⟩, _, _, rfl, ⟨es, rfl, _, he⟩, _, _, rfl, ⟨gs, rfl, _, hg⟩, _, _, rfl, ⟨i, _, rfl⟩, _, _, rfl, ⟨j, _, rfl⟩, rfl⟩ := h
  obtain ⟨l, rfl⟩ := dec_row plc dec_pl he
  obtain ⟨r, rfl⟩ := dec_row plc dec_pl hg
  exact ⟨⟨a, b, d, e, f, l, r, i, j⟩, rfl, rfl⟩
theorem dec_nm (c : List PV) (h : HasC shNm c) : ∃ v : Nm, mkV shNm c = nm v ∧ c = (nm v).cells := by
  obtain ⟨_, _, rfl, ⟨a, _, rfl⟩, _, _, rfl, ⟨b, _, rfl⟩, _, _, rfl, ⟨d, _, rfl⟩, _, _, rfl, ⟨e, _, rfl⟩, _, _, rfl, ⟨f, _, rfl⟩, rfl⟩ := h
  exact ⟨⟨a, b, d, e, f⟩, rfl, rfl⟩
theorem dec_ss (c : List PV) (h : HasC shSs c) : ∃ v : Ss, mkV shSs c = ss v ∧ c = (ss v).cells := by
  obtain ⟨_, _, rfl, ⟨a, _, rfl⟩, _, _, rfl, ⟨b, _, rfl⟩, _, _, rfl, ⟨_, _, rfl, ⟨d, _, rfl⟩, _, _, rfl, ⟨e, _, rfl⟩, _, _, rfl, ⟨f, _, rfl⟩, _, _, rfl, ⟨g, _, rfl⟩, _, _, rfl, ⟨i, _, rfl⟩, _, _, rfl, ⟨j, rfl⟩, rfl⟩, rfl⟩ := h
  exact ⟨⟨a, b, d, e, f, g, i, j⟩, rfl, rfl⟩
theorem dec_ix (c : List PV) (h : HasC shIx c) : ∃ x : Ix, mkV shIx c = ix x ∧ c = (ix x).cells := by
  obtain ⟨_, _, rfl, ⟨es, rfl, _, he⟩, _, _, rfl, ⟨gs, rfl, _, hg⟩, _, _, rfl, ⟨ks, rfl, _, hk⟩, rfl⟩ := h
  obtain ⟨l, rfl⟩ := dec_row vl dec_vl he
  obtain ⟨r, rfl⟩ := dec_row nm dec_nm hg
  obtain ⟨t, rfl⟩ := dec_row ss dec_ss hk
  exact ⟨⟨l, r, t⟩, rfl, rfl⟩
theorem dec_iv (c : List PV) (h : HasC shIv c) : ∃ x : Iv, mkV shIv c = iv x ∧ c = (iv x).cells := by
  obtain ⟨_, _, rfl, ⟨_, _, rfl, ⟨a, _, rfl⟩, _, _, rfl, ⟨b, _, rfl⟩, rfl⟩, _, _, rfl, ⟨d, rfl⟩, _, _, rfl, ⟨es, rfl, _, he⟩, rfl⟩ := h
  obtain ⟨l, rfl⟩ := dec_row plc dec_pl he
  exact ⟨((a, b), d, l), rfl, rfl⟩

theorem okIx_of {x : Ix} (h : (ix x).wt ≤ 1048576) : OkIx x := by
  simp only [ix, PV.wt, wtAll] at h
  refine ⟨?_, fun v hv => ?_⟩
  · have := wt_len (x.vols.map vl); rw [List.length_map] at this; omega
  · have h1 := wt_mem (List.mem_map_of_mem (f := vl) hv)
    have h2 := wt_len (v.places.map plc)
    rw [List.length_map] at h2
    have h3 : wtAll (v.places.map plc) ≤ (vl v).wt := by simp only [vl, PV.wt, wtAll]; omega
    omega
theorem okIv_of {l : List Iv} (h : wtAll (l.map iv) ≤ 1048576) : okIv l := by
  refine ⟨?_, fun y hy => ?_⟩
  · have := wt_len (l.map iv); rw [List.length_map] at this; omega
  · have h1 := wt_mem (List.mem_map_of_mem (f := iv) hy)
    have h2 := wt_len (y.2.2.map plc)
    rw [List.length_map] at h2
    have h3 : wtAll (y.2.2.map plc) ≤ (iv y).wt := by simp only [iv, PV.wt, wtAll]; omega
    omega

theorem planNextsUpto_law (c0 : List PV) (h0 : HasC shIx c0) (c1 : List PV) (h1 : HasC (.sl 4 shIv) c1) (c2 : List PV) (h2 : HasC (.int .i64) c2)
    (hw : (mkV shIx c0).wt + (mkV (.sl 4 shIv) c1).wt + (mkV (.int .i64) c2).wt ≤ 1048576) :
    SatCall Try.prog 3 [mkV shIx c0, mkV (.sl 4 shIv) c1, mkV (.int .i64) c2] [] fun r _ => r = .bool true := by
  obtain ⟨x, e, _⟩ := dec_ix c0 h0
  obtain ⟨es, rfl, _, he⟩ := h1
  obtain ⟨l, rfl⟩ := dec_row iv dec_iv he
  obtain ⟨n, _, rfl⟩ := h2
  rw [e] at hw ⊢
  have hl : wtAll (l.map iv) ≤ 1048576 := by simp only [mkV, PV.wt] at hw; omega
  exact (planNexts_sat x l n (okIx_of (by omega)) (okIv_of hl) []).mono fun _ _ h => h.1
theorem planRestsUpto_law (c0 : List PV) (h0 : HasC shIx c0) (c1 : List PV) (h1 : HasC (.sl 4 shIv) c1) (c2 : List PV) (h2 : HasC (.int .i64) c2)
    (hw : (mkV shIx c0).wt + (mkV (.sl 4 shIv) c1).wt + (mkV (.int .i64) c2).wt ≤ 1048576) :
    SatCall Try.prog 4 [mkV shIx c0, mkV (.sl 4 shIv) c1, mkV (.int .i64) c2] [] fun r _ => r = .bool true := by
  obtain ⟨x, e, _⟩ := dec_ix c0 h0
  obtain ⟨es, rfl, _, he⟩ := h1
  obtain ⟨l, rfl⟩ := dec_row iv dec_iv he
  obtain ⟨n, _, rfl⟩ := h2
  rw [e] at hw ⊢
  have hl : wtAll (l.map iv) ≤ 1048576 := by simp only [mkV, PV.wt] at hw; omega
  exact (planRests_sat x l n (okIx_of (by omega)) (okIv_of hl) []).mono fun _ _ h => h.1

end Go.Proofs.Ytenmnbjhebmpjaa.Pv
