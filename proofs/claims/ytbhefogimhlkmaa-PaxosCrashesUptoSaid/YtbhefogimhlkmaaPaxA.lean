/- Replicas; what a work tells. -/
import Derived.Test.YtbhefogimhlkmaaPaxAcE
import Derived.Test.YtbhefogimhlkmaaPvZu
import Derived.Test.YtbhefogimhlkmaaPvZv
/- BUILD -/
namespace Go.Proofs.Ytbhefogimhlkmaa.Pv
open Go
set_option linter.unusedVariables false
set_option linter.unusedSimpArgs false
set_option maxRecDepth 100000

abbrev Tld := Int × List Vt
def told (t : Tld) : PV := .agg [.int .i64 t.1, .sl .sh 3 (t.2.map vt)]
abbrev Ackt := Int × ByteArray × Int
def ack (a : Ackt) : PV := .agg [.int .i64 a.1, .str a.2.1, .int .u64 a.2.2]
abbrev Entt := Int × ByteArray
def ent (e : Entt) : PV := .agg [.int .i64 e.1, .str e.2]
structure Ltr where
  kind : Int
  frm : Int
  to : Int
  bal : Int
  slot : Int
  val : ByteArray
  votes : List Vt
instance : Inhabited Ltr := ⟨⟨0, 0, 0, 0, 0, ⟨#[]⟩, []⟩⟩
def ltr (m : Ltr) : PV := .agg [.int .i64 m.kind, .int .i64 m.frm, .int .i64 m.to, .int .u64 m.bal, .int .i64 m.slot, .str m.val, .sl .sh 3 (m.votes.map vt)]
structure Rpl where
  id : Int
  a : Acp
  ballot : Int
  lead : Bool
  got : List Tld
  next : Int
  acks : List Ackt
  log : List ByteArray
  ahead : List Entt
  idle : Int
def rpl (p : Rpl) : PV := .agg [.int .i64 p.id, .int .u64 p.a.1, .sl .sh 3 (p.a.2.map vt), .int .u64 p.ballot, .bool p.lead, .sl .sh 2 (p.got.map told), .int .i64 p.next, .sl .sh 3 (p.acks.map ack), .sl .sh 1 (p.log.map .str), .sl .sh 2 (p.ahead.map ent), .int .i64 p.idle]
def wkC (p : Rpl) (ls : List Ltr) : List PV := [.int .i64 p.id, .int .u64 p.a.1, .sl .sh 3 (p.a.2.map vt), .int .u64 p.ballot, .bool p.lead, .sl .sh 2 (p.got.map told), .int .i64 p.next, .sl .sh 3 (p.acks.map ack), .sl .sh 1 (p.log.map .str), .sl .sh 2 (p.ahead.map ent), .int .i64 p.idle, .sl .ow 7 (ls.map ltr)]
theorem wkC_lt (p : Rpl) (ls : List Ltr) : ltAll 0 (wkC p ls) := by simp [wkC, ltAll, PV.lt]

theorem wkC_app (p : Rpl) (ls : List Ltr) (x : Ltr) : wkC p (ls ++ [x]) = (wkC p ls).set 11 (.sl .ow 7 (ls.map ltr ++ [ltr x])) := by simp [wkC]

theorem to_sat (p : Rpl) (ls : List Ltr) (j : Int) (m : Ltr) (hl : ls.length ≤ 1048576) (σ : Sto) : SatCall Try.prog 31 [.ptr (σ.length + 0) 0, .int .i64 j, ltr m] (σ ++ [.cells (wkC p ls)]) fun x s => x = .tup [] ∧ s = σ ++ [.cells (wkC p (ls ++ [{ m with frm := p.id, to := j }]))] := by
  refine sat_fn tab Try.func31 rfl (Nat.le_of_ble_eq_true rfl) (by decide) fun hso => ?_
  repeat' (first | (apply og_ops; (first | (apply og_move; (apply op_move (tt := tt); (focus ((conv => lhs; whnf); try exact rfl)); exact rfl)) | (apply og_load; (first | (apply op_loadTX tab (d := 18); exact rfl; exact rfl; exact rfl; exact rfl; exact rfl; exact rfl; exact rfl) | (apply op_lk; (apply lk_loadX tab; exact rfl; exact rfl; exact rfl; (focus ((conv => lhs; whnf; arg 1; whnf; arg 2; whnf); try skip)); (exact trivial)); (intro c h; cases h); exact rfl))) | (apply og_callb; (apply op_appendX tab; (focus ((conv => lhs; whnf); try exact rfl)); exact rfl; exact rfl; exact rfl; exact rfl; exact rfl; (focus ((conv => lhs; whnf); try exact rfl)); exact rfl; (simp only [List.length_map, List.length_append, List.length_cons, List.length_nil, List.length_take]; omega); (exact rfl); exact rfl)) | (apply og_fieldAddr; (apply op_lk; (apply lk_fieldAddrB tab; exact rfl; (focus ((conv => lhs; whnf); try exact rfl)); exact rfl; (first | exact (rfl : _ = 0) | exact (rfl : _ = 1) | exact (rfl : _ = 2) | exact (rfl : _ = 11))); (intro c h; cases h); exact rfl)) | (apply og_store; (first | (apply op_storeTX tab; exact rfl; exact rfl; exact rfl; exact rfl; (focus ((conv => lhs; whnf); try exact rfl)); exact rfl; exact rfl; (intro h; cases h)) | (apply op_storeX tab; exact rfl; exact rfl; exact rfl; (focus ((conv => lhs; whnf); try exact rfl)); exact rfl; exact rfl; exact rfl; exact rfl) | (apply op_storeTX tab; exact rfl; exact rfl; exact rfl; exact rfl; (focus ((conv => lhs; whnf); try exact rfl)); exact rfl; exact rfl; (intro h; cases h)))) | (apply og_buildSlice; (apply op_buildSliceX .ow tab; exact rfl; (focus ((repeat (apply opvs_cons; (focus ((conv => lhs; whnf); try exact rfl)))); exact opvs_nil)); exact rfl; exact rfl; exact rfl; exact rfl; exact rfl; exact rfl)) | (apply og_box; (apply op_boxX (tt := tt); (focus ((conv => lhs; whnf); try exact rfl)); exact rfl; (exact (rfl : _ = 1)); exact rfl)) | (apply og_nilCheck; (apply op_lk; (apply lk_nilCheck (tt := tt); (focus ((conv => lhs; whnf); try exact rfl))); (intro c h; cases h); exact rfl)) | (apply ops_nil))) | (apply og_sat; (first | (apply sat_seq) | (apply sat_region) | (apply sat_drawG1 (id := 2) (k := 8) (keys := [[14], [15], [16], [17], [18], [19], [20], [21, 18]]) (j := 4); exact mixed; decide +kernel; decide +kernel))) | (apply pe_norm) | (first | (apply og_soT (d := 18); intro env0) | (apply so_lk; (first | (apply lg_move; (apply lk_move (tt := tt); (focus ((conv => lhs; whnf); try exact rfl)))) | (apply lg_fieldAddr; (apply lk_fieldAddr tab; (focus ((conv => lhs; whnf; arg 1; whnf; arg 2; whnf); try exact rfl)); (exact Nat.ne_of_beq_eq_false rfl))) | (apply lg_load; (apply lk_loadX tab; exact rfl; exact rfl; exact rfl; (focus ((conv => lhs; whnf; arg 1; whnf; arg 2; whnf); try skip)); (exact Nat.le_of_ble_eq_true rfl))) | (apply lg_nilCheck; (apply lk_nilCheck (tt := tt); (focus ((conv => lhs; whnf); try exact rfl))))); exact rfl; exact rfl) | (apply og_so; intro env0)) | (apply eg3; exact rfl; exact rfl; exact rfl) | (apply og_oth; (first | exact oth_nil | (apply oth_same; exact rfl) | (apply oth_no; decide +kernel) | (apply oth_yes))) | (apply og_dg; (first | (apply dg_n) | (apply dg_nil))) | (apply og_dj; (first | (apply dg_turn0_1; exact rfl; exact rfl) | (apply dg_step0_1; exact rfl; exact rfl; exact rfl; exact rfl) | (apply dg_step1_1; exact rfl; exact rfl; exact rfl; exact rfl) | (apply dg_step1_2; exact rfl; exact rfl; exact rfl; exact rfl))))
  (change fnPost _ _ _ _ _ _ _; apply fn_endB; (exact .inl rfl); (focus (repeat' (exact rr_nil))); exact rfl; exact rfl; exact hso; (focus (repeat' (exact trivial))); (focus (repeat' (first | exact trivial | exact And.intro trivial trivial | refine And.intro ?_ ?_))))
  exact ⟨rfl, by rw [wkC_app]; rfl⟩

def tellsTo (id : Int) (m : Ltr) (i : Nat) : List Ltr := ((List.range i).filter fun (j : Nat) => decide ((j : Int) ≠ id)).map fun (j : Nat) => { m with frm := id, to := (j : Int) }
theorem tellsTo_succ (id : Int) (m : Ltr) (i : Nat) : tellsTo id m (i + 1) = tellsTo id m i ++ if (i : Int) ≠ id then [{ m with frm := id, to := (i : Int) }] else [] := by
  unfold tellsTo
  rw [List.range_succ, List.filter_append, List.map_append]
  congr 1
  by_cases h : (i : Int) = id <;> simp [h]
theorem tellsTo_len (id : Int) (m : Ltr) (i : Nat) : (tellsTo id m i).length ≤ i := by
  unfold tellsTo
  rw [List.length_map]
  exact Nat.le_trans (List.length_filter_le _ _) (by simp)

theorem others_sat (k : Nat) (σ : Sto) (hk : k < σ.length) : SatCall Try.prog 49 [.ptr k 0] σ fun x s => x = .fn (.func 64) [] [.ptr (σ.length + 0) 0] ∧ s = σ ++ [.cells [.ptr k 0]] := by
  refine sat_fn tab Try.func49 rfl (Nat.le_of_ble_eq_true rfl) (by decide) fun hso => sat_base ?_
  repeat' (first | (apply og_ops; (first | (apply og_assign; (apply op_assign (tt := tt); (focus ((conv => lhs; whnf); try exact rfl)); exact rfl)) | (apply og_makeFunc; (apply op_lk; (apply lk_makeFunc (tt := tt); exact rfl; exact rfl; (focus ((conv => lhs; whnf); try exact rfl))); (intro c h; cases h); exact rfl)) | (apply og_box; (apply op_boxX (tt := tt); (focus ((conv => lhs; whnf); try exact rfl)); exact rfl; (exact (rfl : _ = 0)); exact rfl)) | (apply ops_nil))) | (apply og_sat; (first | (apply sat_seq) | (apply sat_region) | (apply sat_ret))) | (apply pe_norm))
  change fnPost _ _ _ _ _ _ _
  have hlt : σ.length + 0 < (σ ++ [Ent.cells [PV.ptr k 0]]).length := by simp
  exact fn_endN (ex := []) (τ := σ ++ [Ent.cells [PV.ptr k 0]]) [PV.fn (.func 64) [] [PV.ptr (σ.length + 0) 0]] (by first | exact .inl rfl | exact .inr rfl) ⟨Wk.same _, trivial⟩ rfl (List.append_nil _).symm (by simp) ⟨⟨trivial, hlt, trivial⟩, trivial⟩
    (stoOK_push hso (show ltAll (σ.length + 1) [PV.ptr k 0] from ⟨by show k < _; omega, trivial⟩)) ⟨rfl, rfl⟩

/-- What others' loop has: the work, its place, the letter, its place again, the loop. -/
def oSt (σ : Sto) (p : Rpl) (ls : List Ltr) (m : Ltr) (lp : Ent) : Sto := σ ++ [.cells (wkC p ls), .cells [.ptr (σ.length + 0) 0], .cells (ltr m).cells, .cells [.ptr (σ.length + 0) 0], lp]

theorem others1_sat (p : Rpl) (ls : List Ltr) (m : Ltr) (hl : ls.length ≤ 1048570) (σ : Sto) (rcd : Loop) (E0 : Env)
    (hy : ∀ (i : Nat) (ls' : List Ltr), i < 3 → ls'.length ≤ 1048575 → SatYield Try.prog (σ.length + 4) [.int .i64 i] (oSt σ p ls' m (.loop .ready none rcd E0)) fun b s => b = true ∧ s = oSt σ p (ls' ++ [{ m with frm := p.id, to := (i : Int) }]) m (.loop .ready none rcd E0)) :
    SatCall Try.prog 64 [.yld (σ.length + 4), .ptr (σ.length + 3) 0] (oSt σ p ls m (.loop .ready none rcd E0)) fun x s => x = .tup [] ∧ s = oSt σ p (ls ++ tellsTo p.id m 3) m (.loop .ready none rcd E0) := by
  refine sat_fn tab Try.func64 rfl (Nat.le_of_ble_eq_true rfl) (by decide) fun hso => ?_
  repeat' (first | (apply og_ops; (first | (apply og_move; (apply op_move (tt := tt); (focus ((conv => lhs; whnf); try exact rfl)); exact rfl)) | (apply ops_nil))) | (apply og_sat; (first | (apply sat_seq) | (apply sat_region) | (apply sat_block))) | (apply pe_norm))
  refine sat_loopW (fun i : Nat => [(0, .yld (σ.length + 4)), (1, .ptr (σ.length + 3) 0), (4, .int .i64 i)]) (fun i => oSt σ p (ls ++ tellsTo p.id m i) m (.loop .ready none rcd E0)) (fun i => i ≤ 3) (fun i => 3 - i) 0 (Nat.zero_le _) ?_ (by simp [tellsTo]) ?_
  · (repeat' (first | exact trivial | exact Wk.same _ | refine ⟨?_, ?_⟩))
  intro i hi
  have htl := tellsTo_len p.id m i
  rcases Nat.lt_or_ge i 3 with hlt | hge
  · have c1 : decide ((i : Int) < 3) = true := decide_eq_true (by omega)
    by_cases h : (i : Int) = p.id
    · have c2 : ((i : Int) != p.id) = false := by simpa using h
      unfold oSt
      repeat' (first | (apply og_ops; (first | (apply og_guard; (apply ops_guard_f'; exact (rfl : _ = some _); exact (rfl : _ = PV.bool _); (assumption); exact ltn rfl)) | (apply og_move; (apply op_move (tt := tt); (focus ((conv => lhs; whnf); try exact rfl)); exact rfl)) | (apply og_assign; (apply op_assign (tt := tt); (focus ((conv => lhs; whnf); try exact rfl)); exact rfl)) | (apply og_bin; (apply op_bin true tab; (focus ((conv => lhs; whnf; arg 1; whnf; arg 2; whnf); try exact rfl)); (first | exact trivial | (simp only [InR]; omega)); exact rfl)) | (apply og_pick; (apply op_pick (tt := tt); exact (rfl : _ = PV.bool _); (refine .inr ⟨by assumption, ?_⟩); (focus ((conv => lhs; whnf); try exact rfl)); exact ltn rfl)) | (apply og_load; (apply op_lk; (apply lk_loadX tab; exact rfl; exact rfl; exact rfl; (focus ((conv => lhs; whnf; arg 1; whnf; arg 2; whnf); try skip)); (exact trivial)); (intro c h; cases h); exact rfl)) | (apply og_fieldAddr; (apply op_lk; (apply lk_fieldAddrB tab; exact rfl; (focus ((conv => lhs; whnf); try exact rfl)); exact rfl; (exact (rfl : _ = 0))); (intro c h; cases h); exact rfl)) | (apply og_nilCheck; (apply op_lk; (apply lk_nilCheck (tt := tt); (focus ((conv => lhs; whnf); try exact rfl))); (intro c h; cases h); exact rfl)) | (apply ops_nil))) | (apply og_sat; (first | (apply sat_seq) | (apply sat_region) | (apply sat_cond_t; exact rfl; (assumption)) | (apply sat_cond_f; exact rfl; (exact rfl)) | (apply sat_skip) | (apply sat_block))) | (apply pe_norm) | (apply pb_norm))
      refine ⟨i + 1, by omega, by omega, ?_, ?_⟩
      · (repeat' (first | exact trivial | exact Wk.same _ | refine ⟨?_, ?_⟩))
      · rw [tellsTo_succ, if_neg (by simpa using h), List.append_nil]
    · have c2 : ((i : Int) != p.id) = true := by simpa using h
      have h2 := hy i (ls ++ tellsTo p.id m i) hlt (by rw [List.length_append]; omega)
      unfold oSt at h2 ⊢
      repeat' (first | (apply og_ops; (first | (apply og_guard; (apply ops_guard_t; exact (rfl : _ = some _); exact (rfl : _ = PV.bool _); (assumption))) | (apply og_move; (apply op_move (tt := tt); (focus ((conv => lhs; whnf); try exact rfl)); exact rfl)) | (apply og_assign; (apply op_assign (tt := tt); (focus ((conv => lhs; whnf); try exact rfl)); exact rfl)) | (apply og_bin; (apply op_bin true tab; (focus ((conv => lhs; whnf; arg 1; whnf; arg 2; whnf); try exact rfl)); (exact trivial); exact rfl)) | (apply og_load; (apply op_lk; (apply lk_loadX tab; exact rfl; exact rfl; exact rfl; (focus ((conv => lhs; whnf; arg 1; whnf; arg 2; whnf); try skip)); (exact trivial)); (intro c h; cases h); exact rfl)) | (apply og_fieldAddr; (apply op_lk; (apply lk_fieldAddrB tab; exact rfl; (focus ((conv => lhs; whnf); try exact rfl)); exact rfl; (exact (rfl : _ = 0))); (intro c h; cases h); exact rfl)) | (apply og_nilCheck; (apply op_lk; (apply lk_nilCheck (tt := tt); (focus ((conv => lhs; whnf); try exact rfl))); (intro c h; cases h); exact rfl)) | (apply ops_nil))) | (apply og_sat; (first | (apply sat_seq) | (apply sat_region) | (apply sat_cond_t; exact rfl; (assumption)) | (apply sat_skip) | (apply sat_block))) | (apply pe_norm))
      refine op_yield (tt := tt) rfl rfl (by decide) rfl h2 (ltn rfl) ?_
      rintro b s ⟨rfl, rfl⟩
      repeat' (first | (apply og_ops; (first | (apply og_guard; (apply ops_guard_t; exact (rfl : _ = some _); exact (rfl : _ = PV.bool _); (assumption))) | (apply og_move; (apply op_move (tt := tt); (focus ((conv => lhs; whnf); try exact rfl)); exact rfl)) | (apply og_bin; (apply op_bin true tab; (focus ((conv => lhs; whnf; arg 1; whnf; arg 2; whnf); try exact rfl)); (simp only [InR]; omega); exact rfl)) | (apply og_pick; (apply op_pick (tt := tt); exact (rfl : _ = PV.bool _); (refine .inl ⟨by assumption, ?_⟩); (focus ((conv => lhs; whnf); try exact rfl)); exact ltn rfl)) | (apply og_un; (apply op_un (tt := tt) true; (focus ((conv => lhs; whnf; arg 1; whnf; arg 2; whnf); try exact rfl)); (exact trivial); exact rfl)) | (apply ops_nil))) | (apply og_sat; (first | (apply sat_region) | (apply sat_cond_f; exact rfl; (exact rfl)) | (apply sat_skip))) | (apply pe_norm) | (apply pb_norm))
      refine ⟨i + 1, by omega, by omega, ?_, ?_⟩
      · (repeat' (first | exact trivial | exact Wk.same _ | refine ⟨?_, ?_⟩))
      · rw [tellsTo_succ, if_pos h, List.append_assoc]
  · have c1 : decide ((i : Int) < 3) = false := decide_eq_false (by omega)
    have hii : i = 3 := by omega
    subst hii
    unfold oSt
    repeat' (first | (apply og_ops; (first | (apply og_bin; (apply op_bin true tab; (focus ((conv => lhs; whnf; arg 1; whnf; arg 2; whnf); try exact rfl)); (exact trivial); exact rfl)) | (apply ops_nil))) | (apply og_sat; (first | (apply sat_seq) | (apply sat_region) | (apply sat_cond_f; exact rfl; (exact rfl)) | (apply sat_exit))) | (apply pe_norm) | (apply pe_exit) | (apply pb_same))
    (change fnPost _ _ _ _ _ _ _; apply fn_end0; (exact .inl rfl); exact rfl)
    exact ⟨rfl, rfl⟩

end Go.Proofs.Ytbhefogimhlkmaa.Pv
