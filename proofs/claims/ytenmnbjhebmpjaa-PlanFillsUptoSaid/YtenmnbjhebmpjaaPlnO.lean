/- A volume's content. -/
import Derived.Test.YtenmnbjhebmpjaaPlnDec
namespace Go.Proofs.Ytenmnbjhebmpjaa.Pv
open Go
set_option linter.unusedVariables false
set_option linter.unusedSimpArgs false
set_option maxRecDepth 100000

def partB (s : Int × Int) (p : Int × ByteArray) : Bool := p.1 == s.1 && (p.2.size : Int) == s.2
def partI (hv : List (Int × ByteArray)) (s : Int × Int) : Int := idxI (partB s) hv
def fillStep (hv : List (Int × ByteArray)) (l : List (Int × ByteArray)) (s : Int × Int) : Option (List (Int × ByteArray)) := if partI hv s < 0 then none else some (l ++ [hv.getD (partI hv s).toNat default])
def fillL (hv : List (Int × ByteArray)) (ps : List (Int × Int)) : Option (List (Int × ByteArray)) := ps.foldlM (fillStep hv) []
def contP (v : Vl) (hv : List (Int × ByteArray)) : ByteArray × Int := match fillL hv v.parts with
  | some l => layP 160 l
  | none => (⟨#[]⟩, 7)

theorem fillL_snoc (hv : List (Int × ByteArray)) (ps : List (Int × Int)) (s : Int × Int) : fillL hv (ps ++ [s]) = (fillL hv ps).bind (fillStep hv · s) := by
  simp only [fillL, List.foldlM_append, List.foldlM_cons, List.foldlM_nil]
  cases List.foldlM (fillStep hv) [] ps with
  | none => rfl
  | some b =>
    change (fillStep hv b s).bind _ = fillStep hv b s
    cases fillStep hv b s <;> rfl
theorem fillL_none {hv : List (Int × ByteArray)} {ps : List (Int × Int)} {i : Nat} (h : fillL hv (ps.take i) = none) : fillL hv ps = none := by
  conv => lhs; rw [← List.take_append_drop i ps]
  simp only [fillL, List.foldlM_append] at h ⊢
  rw [h]; rfl
theorem fillL_len {hv : List (Int × ByteArray)} : ∀ (ps : List (Int × Int)) (b l : List (Int × ByteArray)), ps.foldlM (fillStep hv) b = some l → l.length = b.length + ps.length
  | [], b, l, h => by simp at h; subst h; simp
  | s :: r, b, l, h => by
    simp only [List.foldlM_cons] at h
    cases h1 : fillStep hv b s with
    | none => rw [h1] at h; cases h
    | some b1 =>
      rw [h1] at h
      have h2 := fillL_len r b1 l h
      unfold fillStep at h1
      split at h1
      · cases h1
      · cases h1; simp at h2 ⊢; omega
theorem fillL_mem {hv : List (Int × ByteArray)} : ∀ (ps : List (Int × Int)) (b l : List (Int × ByteArray)), ps.foldlM (fillStep hv) b = some l → ∀ x ∈ l, x ∈ b ∨ x ∈ hv
  | [], b, l, h => by simp at h; subst h; exact fun x hx => .inl hx
  | s :: r, b, l, h => by
    simp only [List.foldlM_cons] at h
    cases h1 : fillStep hv b s with
    | none => rw [h1] at h; cases h
    | some b1 =>
      rw [h1] at h
      intro x hx
      rcases fillL_mem r b1 l h x hx with h2 | h2
      · unfold fillStep at h1
        split at h1
        · cases h1
        · rename_i hn
          cases h1
          rcases List.mem_append.1 h2 with h3 | h3
          · exact .inl h3
          · rw [List.mem_singleton.1 h3]; exact .inr (getD_memL (idxI_ltL (by unfold partI at hn; omega)))
      · exact .inr h2


theorem indexFuncPt_sat {g : FuncId} {caps : List PV} (p : Int × ByteArray → Bool) (xs : List (Int × ByteArray)) (hl : xs.length ≤ 9223372036854775807) (σ : Sto) (hg : Callable Try.prog g) (hf : ∀ x ∈ xs, SatCall Try.prog g (prt x :: caps) σ fun r σ' => r = .bool (p x) ∧ σ' = σ) (htup : (caps.all fun p => !p.isTup) = true) :
    SatCall Try.prog 42 [.sl .sh 2 (xs.map prt), .fn (.func g) [] caps] σ fun x σ' => x = .int .i64 (idxI p xs) ∧ σ' = σ := by
  refine sat_fn tab Try.func42 rfl (Nat.le_of_ble_eq_true rfl) (by decide) fun hso => ?_
  repeat' (first | (apply og_ops; (first | (apply og_move; (apply op_move (tt := tt); (focus ((conv => lhs; whnf); try exact rfl)); exact rfl)) | (apply og_assign; (apply op_assign (tt := tt); (focus ((conv => lhs; whnf); try exact rfl)); exact rfl)) | (apply og_callb; (apply op_len tab; (focus ((conv => lhs; whnf; arg 1; whnf; arg 2; whnf); try exact rfl)); (exact trivial); exact rfl)) | (apply ops_nil))) | (apply og_sat; (first | (apply sat_seq) | (apply sat_region) | (apply sat_block))) | (apply pe_norm))
  refine sat_loopW (fun i : Nat => [(0, .sl .sh 2 (xs.map prt)), (1, .fn (.func g) [] caps), (7, .int .i64 xs.length), (8, .int .i64 i)]) (fun _ => σ) (fun i => i ≤ xs.length ∧ ∀ j, j < i → p (xs.getD j default) = false) (fun i => xs.length - i) 0 ⟨Nat.zero_le _, fun j hj => by omega⟩ ?_ rfl ?_
  · (repeat' (first | exact trivial | exact Wk.same _ | (refine Wk.eq ?_; (conv => rhs; whnf); simp <;> fail) | refine ⟨?_, ?_⟩))
  rintro i ⟨hi, hno⟩
  rcases Nat.lt_or_ge i xs.length with hlt | hge
  · have c1 : decide ((i : Int) < (xs.length : Int)) = true := by simp; omega
    repeat' (first | (apply og_ops; (first | (apply og_move; (apply op_move (tt := tt); (focus ((conv => lhs; whnf); try exact rfl)); exact rfl)) | (apply og_assign; (apply op_assign (tt := tt); (focus ((conv => lhs; whnf); try exact rfl)); exact rfl)) | (apply og_bin; (apply op_bin true tab; (focus ((conv => lhs; whnf; arg 1; whnf; arg 2; whnf); try exact rfl)); (exact trivial); exact rfl)) | (apply og_load; (apply op_load tab; (focus ((conv => lhs; whnf; arg 1; whnf; arg 2; whnf); try skip)); (exact Nat.le_of_ble_eq_true rfl); exact rfl)) | (apply og_indexAddr; (refine op_indexMap (tI := 3) _ tab rfl (by (focus ((conv => lhs; whnf); try exact rfl))) (by (focus ((conv => lhs; whnf); try exact rfl))) rfl (by (omega)) (by (omega)) (by (focus ((conv => lhs; whnf); try exact rfl))) (ltn rfl) ?_)) | (apply ops_nil))) | (apply og_sat; (first | (apply sat_seq) | (apply sat_region) | (apply sat_cond_t; exact rfl; (assumption)) | (apply sat_skip) | (apply sat_block))) | (apply pe_norm))
    refine op_callF (tt := tt) hg (hf _ (getD_memL hlt)) rfl rfl rfl (by simpa [PV.isTup, prt] using htup) rfl ?_
    repeat' (first | (apply og_ops; (first | (apply og_move; (apply op_move (tt := tt); (focus ((conv => lhs; whnf); try exact rfl)); exact rfl)) | (apply og_assign; (apply op_assign (tt := tt); (focus ((conv => lhs; whnf); try exact rfl)); exact rfl)) | (apply og_bin; (apply op_bin true tab; (focus ((conv => lhs; whnf; arg 1; whnf; arg 2; whnf); try exact rfl)); (simp only [InR]; omega); exact rfl)) | (apply ops_nil))) | (apply og_sat; (first | (apply sat_seq) | (apply sat_region) | (apply sat_cond; exact (rfl : _ = PV.bool _); all_goals intro hb) | (apply sat_skip) | (apply sat_ret))) | (apply pe_norm) | (apply pe_ret) | (apply pb_norm) | (apply pb_ret))
    · (change fnPost _ _ _ _ _ _ _; apply fn_endN; (exact .inr rfl); (focus (repeat' (first | (apply rr_tmp; (focus ((conv => lhs; whnf); try exact rfl)); (exact Wk.same _)) | exact rr_nil))); exact rfl; (exact (List.append_nil _).symm); exact Nat.le_refl _; (focus (repeat' (first | exact trivial | refine ⟨?_, ?_⟩))); exact hso)
      exact ⟨by rw [idx_hit hlt hno hb]; rfl, rfl⟩
    · refine ⟨i + 1, ⟨by omega, fun j hj => ?_⟩, by omega, ?_, rfl⟩
      · by_cases e : j = i
        · subst e; exact hb
        · exact hno j (by omega)
      · (repeat' (first | exact trivial | exact Wk.same _ | refine ⟨?_, ?_⟩))
  · have c1 : decide ((i : Int) < (xs.length : Int)) = false := by simp; omega
    repeat' (first | (apply og_ops; (first | (apply og_assign; (apply op_assign (tt := tt); (focus ((conv => lhs; whnf); try exact rfl)); exact rfl)) | (apply og_bin; (apply op_bin true tab; (focus ((conv => lhs; whnf; arg 1; whnf; arg 2; whnf); try exact rfl)); (exact trivial); exact rfl)) | (apply ops_nil))) | (apply og_sat; (first | (apply sat_seq) | (apply sat_region) | (apply sat_cond_f; exact rfl; (assumption)) | (apply sat_ret) | (apply sat_exit))) | (apply pe_norm) | (apply pe_exit) | (apply pb_same))
    (change fnPost _ _ _ _ _ _ _; apply fn_endN; (exact .inr rfl); (focus (repeat' (first | (apply rr_tmp; (focus ((conv => lhs; whnf); try exact rfl)); (exact Wk.same _)) | exact rr_nil))); exact rfl; (exact (List.append_nil _).symm); exact Nat.le_refl _; (focus (repeat' (first | exact trivial | refine ⟨?_, ?_⟩))); exact hso)
    exact ⟨by rw [idx_none fun j hj => hno j (by omega)]; rfl, rfl⟩


theorem fill1_sat (p : Int × ByteArray) (s : Int × Int) (i : Nat) (σ : Sto) (hi : σ[i]? = some (.cells (plc s).cells)) : SatCall Try.prog 43 [prt p, .ptr i 0] σ fun x σ' => x = .bool (partB s p) ∧ σ' = σ := by
  refine sat_fn tab Try.func43 rfl (Nat.le_of_ble_eq_true rfl) (by decide) fun hso => sat_base ?_
  repeat' (first | (apply og_ops; (first | (apply og_guard; (first | (apply ops_guard_t; exact (rfl : _ = some _); exact (rfl : _ = PV.bool _); (assumption)) | (apply ops_guard_f'; exact (rfl : _ = some _); exact (rfl : _ = PV.bool _); (assumption); exact ltn rfl) | (apply ops_gsplit; exact (rfl : _ = some _); exact (rfl : _ = PV.bool _); all_goals intro hb))) | (apply og_move; (apply op_move (tt := tt); (focus ((conv => lhs; whnf); try exact rfl)); exact rfl)) | (apply og_assign; (apply op_assign (tt := tt); (focus ((conv => lhs; whnf); try exact rfl)); exact rfl)) | (apply og_bin; (apply op_bin true tab; (focus ((conv => lhs; whnf; arg 1; whnf; arg 2; whnf); try exact rfl)); (exact trivial); exact rfl)) | (apply og_pick; (apply op_pick (tt := tt); exact (rfl : _ = PV.bool _); (first | refine .inl ⟨by assumption, ?_⟩ | refine .inr ⟨by assumption, ?_⟩); (focus ((conv => lhs; whnf); try exact rfl)); exact ltn rfl)) | (apply og_load; (first | (apply op_lk; (apply lk_loadX tab; exact rfl; exact rfl; exact rfl; (focus ((conv => lhs; whnf; arg 1; whnf; arg 2; whnf); try skip)); (exact trivial)); (intro c h; cases h); exact rfl) | (apply op_lk; (apply lk_loadB tab; exact rfl; exact rfl; (exact getL (by assumption)); (focus ((conv => lhs; whnf; arg 1; whnf; arg 2; whnf); try skip)); (exact trivial)); (intro c h; cases h); exact rfl))) | (apply og_callb; (apply op_len tab; (focus ((conv => lhs; whnf; arg 1; whnf; arg 2; whnf); try exact rfl)); (exact trivial); exact rfl)) | (apply og_fieldAddr; (apply op_lk; (apply lk_fieldAddrB tab; exact rfl; (focus ((conv => lhs; whnf); try exact rfl)); exact rfl; (first | exact (rfl : _ = 0) | exact (rfl : _ = 1))); (intro c h; cases h); exact rfl)) | (apply og_box; (apply op_boxX (tt := tt); (focus ((conv => lhs; whnf); try exact rfl)); exact rfl; (exact (rfl : _ = 0)); exact rfl)) | (apply ops_nil))) | (apply og_sat; (first | (apply sat_seq) | (apply sat_region) | (apply sat_ret))) | (apply pe_norm))
  all_goals (change fnPost _ _ _ _ _ _ _; apply fn_endN; (exact .inr rfl); (focus (repeat' (first | (apply rr_tmp; (focus ((conv => lhs; whnf); try exact rfl)); (exact Wk.same _)) | exact rr_nil))); exact rfl; (exact rfl); exact Nat.le_refl _; (focus (repeat' (first | exact trivial | refine ⟨?_, ?_⟩))); exact hso)
  all_goals exact ⟨by simp [resOf, partB, hb], rfl⟩

theorem fill_sat (v : Vl) (hv : List (Int × ByteArray)) (hp : v.parts.length ≤ 1048576) (hl : hv.length ≤ 1048576) (σ : Sto) : SatCall Try.prog 15 [vl v, .sl .sh 2 (hv.map prt)] σ fun x σ' => x = .tup [.str (contP v hv).1, .int .i64 (contP v hv).2] ∧ σ' = σ := by
  refine sat_fn tab Try.func15 rfl (Nat.le_of_ble_eq_true rfl) (by decide) fun hso => sat_base ?_
  repeat' (first | (apply og_ops; (first | (apply og_move; (apply op_move (tt := tt); (focus ((conv => lhs; whnf); try exact rfl)); exact rfl)) | (apply og_assign; (first | (apply op_nil (tt := tt); exact rfl; exact ltn rfl) | (apply op_assign (tt := tt); (focus ((conv => lhs; whnf); try exact rfl)); exact rfl))) | (apply og_load; (apply op_lk; (apply lk_loadX tab; exact rfl; exact rfl; exact rfl; (focus ((conv => lhs; whnf; arg 1; whnf; arg 2; whnf); try skip)); (exact trivial)); (intro c h; cases h); exact rfl)) | (apply og_callb; (apply op_len tab; (focus ((conv => lhs; whnf; arg 1; whnf; arg 2; whnf); try exact rfl)); (exact trivial); exact rfl)) | (apply og_fieldAddr; (apply op_lk; (apply lk_fieldAddrB tab; exact rfl; (focus ((conv => lhs; whnf); try exact rfl)); exact rfl; (exact (rfl : _ = 5))); (intro c h; cases h); exact rfl)) | (apply og_box; (apply op_boxX (tt := tt); (focus ((conv => lhs; whnf); try exact rfl)); exact rfl; (exact (rfl : _ = 0)); exact rfl)) | (apply ops_nil))) | (apply og_sat; (first | (apply sat_seq) | (apply sat_region) | (apply sat_block))) | (apply pe_norm))
  refine sat_loopD (fun q : Nat × List (Int × ByteArray) => [(1, .sl .sh 2 (hv.map prt)), (2, .ptr (σ.length + 0) 0), (6, .sl .ow 2 (q.2.map prt)), (11, .sl .sh 2 (v.parts.map plc)), (12, .int .i64 v.parts.length), (13, .int .i64 q.1)]) (fun _ => σ ++ [.cells (vl v).cells]) (fun q => q.1 ≤ v.parts.length ∧ fillL hv (v.parts.take q.1) = some q.2) (fun q => v.parts.length - q.1) (0, []) ⟨Nat.zero_le _, rfl⟩ ?_ rfl ?_
  · (repeat' (first | exact trivial | exact Wk.same _ | (refine Wk.eq ?_; (conv => rhs; whnf); simp <;> fail) | refine ⟨?_, ?_⟩))
  rintro ⟨i, l⟩ ⟨hi, hb⟩
  dsimp only at hi hb ⊢
  have hlen : l.length = 0 + (v.parts.take i).length := fillL_len _ _ _ hb
  rw [List.length_take] at hlen
  by_cases hil : i < v.parts.length
  · have d1 : decide ((i : Int) < (v.parts.length : Int)) = true := decide_eq_true (by omega)
    have ht : v.parts.take (i + 1) = v.parts.take i ++ [v.parts.getD i default] := by
      rw [List.take_succ_eq_append_getElem hil, List.getD_eq_getElem?_getD, List.getElem?_eq_getElem hil]; rfl
    have hs := fillL_snoc hv (v.parts.take i) (v.parts.getD i default)
    rw [← ht, hb, Option.bind_some, fillStep] at hs
    have hix := fun (σ : Sto) (k : Nat) (hk : σ[k]? = some (.cells (plc (v.parts.getD i default)).cells)) => indexFuncPt_sat (g := 43) (caps := [.ptr k 0]) (partB (v.parts.getD i default)) hv (by omega) σ cal43 (fun y _ => fill1_sat y _ k σ hk) rfl
    by_cases hn : partI hv (v.parts.getD i default) < 0
    · rw [if_pos hn] at hs
      have d2 : decide (partI hv (v.parts.getD i default) < 0) = true := decide_eq_true hn
      have e : contP v hv = (⟨#[]⟩, 7) := by rw [contP, fillL_none hs]
      rw [e]
      repeat' (first | (apply og_ops; (first | (apply og_move; (apply op_move (tt := tt); (focus ((conv => lhs; whnf); try exact rfl)); exact rfl)) | (apply og_bin; (apply op_bin true tab; (focus ((conv => lhs; whnf; arg 1; whnf; arg 2; whnf); try exact rfl)); (exact trivial); exact rfl)) | (apply og_load; (apply op_load tab; (focus ((conv => lhs; whnf; arg 1; whnf; arg 2; whnf); try skip)); (exact Nat.le_of_ble_eq_true rfl); exact rfl)) | (apply og_indexAddr; (refine op_indexMap (tI := 3) _ tab rfl (by (focus ((conv => lhs; whnf); try exact rfl))) (by (focus ((conv => lhs; whnf); try exact rfl))) rfl (by (omega)) (by (omega)) (by (focus ((conv => lhs; whnf); try exact rfl))) (ltn rfl) ?_)) | (apply og_store; (apply op_storeX tab; exact rfl; exact rfl; exact rfl; exact rfl; exact rfl; exact rfl; exact rfl; exact rfl)) | (apply og_makeFunc; (apply op_lk; (apply lk_makeFunc (tt := tt); exact rfl; exact rfl; (focus ((conv => lhs; whnf); try exact rfl))); (intro c h; cases h); exact rfl)) | (apply og_alloc; (apply op_allocX tab; exact rfl; exact rfl; (exact (rfl : _ = 1)); exact rfl)) | (apply ops_nil))) | (apply og_sat; (first | (apply sat_seq) | (apply sat_region) | (apply sat_cond_t; exact rfl; (assumption)) | (apply sat_skip) | (apply sat_block))) | (apply pe_norm))
      refine op_callP (tt := tt) cal42 (hix _ _ (getX _)) rfl rfl rfl rfl rfl ?_
      rw [show idxI (partB (v.parts.getD i default)) hv = partI hv (v.parts.getD i default) from rfl]
      repeat' (first | (apply og_ops; (first | (apply og_move; (apply op_move (tt := tt); (focus ((conv => lhs; whnf); try exact rfl)); exact rfl)) | (apply og_assign; (apply op_assign (tt := tt); (focus ((conv => lhs; whnf); try exact rfl)); exact rfl)) | (apply og_bin; (apply op_bin true tab; (focus ((conv => lhs; whnf; arg 1; whnf; arg 2; whnf); try exact rfl)); (exact trivial); exact rfl)) | (apply ops_nil))) | (apply og_sat; (first | (apply sat_seq) | (apply sat_region) | (apply sat_cond_t; exact rfl; (assumption)) | (apply sat_ret))) | (apply pe_norm) | (apply pe_ret) | (apply pb_ret))
      (change fnPost _ _ _ _ _ _ _; apply fn_endN; (exact .inr rfl); (focus (repeat' (first | (apply rr_tmp; (focus ((conv => lhs; whnf); try exact rfl)); (exact Wk.same _)) | exact rr_nil))); exact rfl; (exact rfl); exact Nat.le_refl _; (focus (repeat' (first | exact trivial | refine ⟨?_, ?_⟩))); exact hso)
      exact ⟨rfl, rfl⟩
    · rw [if_neg hn] at hs
      have d2 : decide (partI hv (v.parts.getD i default) < 0) = false := decide_eq_false hn
      have k0 : 0 ≤ partI hv (v.parts.getD i default) := by omega
      have k1 := idxI_ltL (p := partB (v.parts.getD i default)) (xs := hv) k0
      rw [show idxI (partB (v.parts.getD i default)) hv = partI hv (v.parts.getD i default) from rfl] at k1
      repeat' (first | (apply og_ops; (first | (apply og_move; (apply op_move (tt := tt); (focus ((conv => lhs; whnf); try exact rfl)); exact rfl)) | (apply og_bin; (apply op_bin true tab; (focus ((conv => lhs; whnf; arg 1; whnf; arg 2; whnf); try exact rfl)); (exact trivial); exact rfl)) | (apply og_load; (apply op_load tab; (focus ((conv => lhs; whnf; arg 1; whnf; arg 2; whnf); try skip)); (exact Nat.le_of_ble_eq_true rfl); exact rfl)) | (apply og_indexAddr; (refine op_indexMap (tI := 3) _ tab rfl (by (focus ((conv => lhs; whnf); try exact rfl))) (by (focus ((conv => lhs; whnf); try exact rfl))) rfl (by (omega)) (by (omega)) (by (focus ((conv => lhs; whnf); try exact rfl))) (ltn rfl) ?_)) | (apply og_store; (apply op_storeX tab; exact rfl; exact rfl; exact rfl; exact rfl; exact rfl; exact rfl; exact rfl; exact rfl)) | (apply og_makeFunc; (apply op_lk; (apply lk_makeFunc (tt := tt); exact rfl; exact rfl; (focus ((conv => lhs; whnf); try exact rfl))); (intro c h; cases h); exact rfl)) | (apply og_alloc; (apply op_allocX tab; exact rfl; exact rfl; (exact (rfl : _ = 1)); exact rfl)) | (apply ops_nil))) | (apply og_sat; (first | (apply sat_seq) | (apply sat_region) | (apply sat_cond_t; exact rfl; (assumption)) | (apply sat_skip) | (apply sat_block))) | (apply pe_norm))
      refine op_callP (tt := tt) cal42 (hix _ _ (getX _)) rfl rfl rfl rfl rfl ?_
      rw [show idxI (partB (v.parts.getD i default)) hv = partI hv (v.parts.getD i default) from rfl]
      generalize partI hv (v.parts.getD i default) = q at *
      repeat' (first | (apply og_ops; (first | (apply og_move; (first | (apply op_take (d := 22) (.inr rfl); (focus ((conv => lhs; whnf); try exact rfl)); exact rfl; exact ltn rfl) | (apply op_move (tt := tt); (focus ((conv => lhs; whnf); try exact rfl)); exact rfl))) | (apply og_assign; (first | (apply op_take (.inl rfl); (focus ((conv => lhs; whnf); try exact rfl)); exact rfl; exact ltn rfl) | (apply op_assign (tt := tt); (focus ((conv => lhs; whnf); try exact rfl)); exact rfl))) | (apply og_bin; (apply op_bin true tab; (focus ((conv => lhs; whnf; arg 1; whnf; arg 2; whnf); try exact rfl)); (first | exact trivial | (simp only [InR]; omega)); exact rfl)) | (apply og_load; (apply op_load tab; (focus ((conv => lhs; whnf; arg 1; whnf; arg 2; whnf); try skip)); (exact Nat.le_of_ble_eq_true rfl); exact rfl)) | (apply og_callb; (apply op_appendX tab; (focus ((conv => lhs; whnf); try exact rfl)); exact rfl; exact rfl; exact rfl; exact rfl; exact rfl; (focus ((conv => lhs; whnf); try exact rfl)); exact rfl; (simp only [List.length_map, List.length_append, List.length_cons, List.length_nil, List.length_take]; omega); (exact rfl); exact rfl)) | (apply og_indexAddr; (refine op_indexMap (tI := 3) _ tab rfl (by (focus ((conv => lhs; whnf); try exact rfl))) (by (focus ((conv => lhs; whnf); try exact rfl))) rfl (by (omega)) (by (omega)) (by (focus ((conv => lhs; whnf); try exact rfl))) (ltn rfl) ?_)) | (apply og_buildSlice; (apply op_buildSliceX .ow tab; exact rfl; (focus ((repeat (apply opvs_cons; (focus ((conv => lhs; whnf); try exact rfl)))); exact opvs_nil)); exact rfl; exact rfl; exact rfl; exact rfl; exact rfl; exact rfl)) | (apply ops_nil))) | (apply og_sat; (first | (apply sat_seq) | (apply sat_region) | (apply sat_cond_f; exact rfl; (assumption)) | (apply sat_skip))) | (apply pe_norm) | (apply pb_norm))
      refine ⟨(i + 1, l ++ [hv.getD q.toNat default]), ⟨by dsimp only; omega, hs⟩, by dsimp only; omega, ?_, ?_⟩
      · dsimp only; rw [List.map_append]; (repeat' (first | exact trivial | exact Wk.same _ | refine ⟨?_, ?_⟩))
      · exact loopD_end 1 rfl (by simp) (stoOK_app hso (by simp [Ent.lt, ltAll, PV.lt, PV.cells, vl])) (envL_lt (by simp [PV.lt, vl]))
  · have d1 : decide ((i : Int) < (v.parts.length : Int)) = false := decide_eq_false (by omega)
    have e : i = v.parts.length := by omega
    subst e
    rw [List.take_length] at hb
    have e2 : contP v hv = layP 160 l := by rw [contP, hb]
    rw [e2]
    have hla := lay_sat 160 l (by omega)
    repeat' (first | (apply og_ops; (first | (apply og_move; (apply op_move (tt := tt); (focus ((conv => lhs; whnf); try exact rfl)); exact rfl)) | (apply og_assign; (apply op_assign (tt := tt); (focus ((conv => lhs; whnf); try exact rfl)); exact rfl)) | (apply og_callv; (refine op_callP (tt := tt) cal44 (hla _) rfl rfl rfl rfl rfl ?_)) | (apply og_bin; (apply op_bin true tab; (focus ((conv => lhs; whnf; arg 1; whnf; arg 2; whnf); try exact rfl)); (exact trivial); exact rfl)) | (apply og_extract; (apply op_extract (tt := tt); (focus ((conv => lhs; whnf; arg 1; whnf; arg 2; whnf); try exact rfl)); (exact trivial); exact rfl)) | (apply ops_nil))) | (apply og_sat; (first | (apply sat_seq) | (apply sat_region) | (apply sat_cond_f; exact rfl; (assumption)) | (apply sat_ret) | (apply sat_exit))) | (apply pe_norm) | (apply pe_exit) | (apply pb_same))
    (change fnPost _ _ _ _ _ _ _; apply fn_endN; (exact .inr rfl); (focus (repeat' (first | (apply rr_tmp; (focus ((conv => lhs; whnf); try exact rfl)); (exact Wk.same _)) | exact rr_nil))); exact rfl; (exact rfl); exact Nat.le_refl _; (focus (repeat' (first | exact trivial | refine ⟨?_, ?_⟩))); exact hso)
    exact ⟨rfl, rfl⟩

end Go.Proofs.Ytenmnbjhebmpjaa.Pv
