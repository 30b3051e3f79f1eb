/- A ballot begins; time goes on. -/
import Derived.Test.YtbhefogimhlkmaaPaxA
/- BUILD -/
/- FORCE: nilCheck|fieldAddr|max|conv|pb_ -/
namespace Go.Proofs.Ytbhefogimhlkmaa.Pv
open Go
set_option linter.unusedVariables false
set_option linter.unusedSimpArgs false
set_option maxRecDepth 100000

theorem tell_sat (p : Rpl) (ls : List Ltr) (m : Ltr) (hl : ls.length ≤ 1048570) (σ : Sto) : SatCall Try.prog 21 [.ptr (σ.length + 0) 0, ltr m] (σ ++ [.cells (wkC p ls)]) fun x s => x = .tup [] ∧ s = σ ++ [.cells (wkC p (ls ++ tellsTo p.id m 3))] := by
  refine sat_fn tab Try.func21 rfl (Nat.le_of_ble_eq_true rfl) (by decide) fun hso => ?_
  repeat' (first | (apply og_ops; (first | (apply og_load; (apply op_lk; (apply lk_loadX tab; exact rfl; exact rfl; exact rfl; (focus ((conv => lhs; whnf; arg 1; whnf; arg 2; whnf); try skip)); (exact trivial)); (intro c h; cases h); exact rfl)) | (apply og_box; (apply op_boxX (tt := tt); (focus ((conv => lhs; whnf); try exact rfl)); exact rfl; (first | exact (rfl : _ = 1) | exact (rfl : _ = 2)); exact rfl)) | (apply ops_nil))) | (apply og_sat; (first | (apply sat_seq) | (apply sat_region))) | (apply pe_norm))
  have ho : SatCall Try.prog 49 [.ptr (σ.length + 0) 0] (σ ++ [.cells (wkC p ls), .cells [.ptr (σ.length + 0) 0], .cells (ltr m).cells]) fun x s => x = .fn (.func 64) [] [.ptr (σ.length + 3) 0] ∧ s = σ ++ [.cells (wkC p ls), .cells [.ptr (σ.length + 0) 0], .cells (ltr m).cells, .cells [.ptr (σ.length + 0) 0]] :=
    (others_sat (σ.length + 0) _ (by simp)).mono fun x s ⟨h1, h2⟩ => ⟨by rw [h1]; simp, by rw [h2]; simp⟩
  refine op_callR (tt := tt) cal49 ho rfl rfl rfl rfl rfl ?_
  rintro r s ⟨rfl, rfl⟩
  repeat' (first | (apply og_ops; (apply ops_nil)) | (apply og_sat; (apply sat_block)) | (apply pe_norm))
  refine sat_range (tt := tt) [(2, .ptr (σ.length + 1) 0), (3, .ptr (σ.length + 2) 0)] cal64 rfl (SubL.at ⟨⟨rfl, rfl⟩, ⟨rfl, rfl⟩, trivial⟩) rfl fun rcd hsz hpar has hbody => ?_
  have hi : (σ ++ [Ent.cells (wkC p ls), .cells [.ptr (σ.length + 0) 0], .cells (ltr m).cells, .cells [.ptr (σ.length + 0) 0]]).length = σ.length + 4 := by simp
  refine ⟨fun r s' => r = .tup [] ∧ s' = oSt σ p (ls ++ tellsTo p.id m 3) m (.loop .ready none rcd [(2, .ptr (σ.length + 1) 0), (3, .ptr (σ.length + 2) 0)]), ?_, ?_⟩
  · rw [hi, List.append_assoc]
    refine others1_sat p ls m hl σ rcd [(2, .ptr (σ.length + 1) 0), (3, .ptr (σ.length + 2) 0)] fun i ls' hi3 hl' => ?_
    refine yield_of (i := σ.length + 4) (getX 4) hsz (by rw [hpar]; rfl) (by rw [hpar]; decide) (by simp [PV.isS]) fun l => ?_
    rw [has, hbody, hpar]
    unfold oSt
    repeat' (first | (apply og_ops; (first | (apply og_assign; (apply op_assign (tt := tt); (focus ((conv => lhs; whnf); try exact rfl)); exact rfl)) | (apply ops_nil))) | (apply og_sat; (apply sat_region)))
    refine ⟨rfl, rfl, ?_⟩
    rw [setX]
    repeat' (first | (apply og_ops; (first | (apply og_move; (apply op_move (tt := tt); (focus ((conv => lhs; whnf); try exact rfl)); exact rfl)) | (apply og_load; (apply op_lk; (apply lk_loadX tab; exact rfl; exact rfl; exact rfl; (focus ((conv => lhs; whnf; arg 1; whnf; arg 2; whnf); try skip)); (first | exact trivial | exact Nat.le_of_ble_eq_true rfl)); (intro c h; cases h); exact rfl)))) | (apply og_sat; (first | (apply sat_region) | (apply sat_block))))
    refine op_callM (tt := tt) (k := 0) cal31 rfl (to_sat p ls' i m (by omega)) trivial (wkC_lt _ _) rfl rfl rfl rfl rfl ?_
    repeat' (first | (apply og_ops; (apply ops_nil)) | (apply pb_norm))
    refine ⟨getX 4, rfl, ?_⟩
    rw [setX]
    rfl
  · rintro r s' ⟨rfl, rfl⟩
    rw [hi]
    unfold oSt
    refine ⟨.ready, none, getX 4, by decide, ?_⟩
    simp only
    rw [setX]
    repeat' (apply pb_norm)
    (change fnPost _ _ _ _ _ _ _; apply fn_endB; (exact .inl rfl); (focus (repeat' (exact rr_nil))); exact rfl; exact rfl; exact hso; (focus (repeat' (exact trivial))); (focus (repeat' (first | exact trivial | exact And.intro trivial trivial | refine And.intro ?_ ?_))))
    exact ⟨rfl, rfl⟩

def nextB (id b : Int) : Int := IntKind.u64.wrap (IntKind.u64.wrap (b + 1) + (IntKind.u64.wrap (IntKind.u64.wrap (IntKind.u64.wrap id + 3) - (IntKind.u64.wrap (b + 1)).tmod 3)).tmod 3)
def ltr0 : Ltr := ⟨0, 0, 0, 0, 0, ⟨#[]⟩, []⟩
/-- A ballot that begins: the replica, what it tells. -/
def standP (p : Rpl) : Rpl × List Ltr :=
  if nextB p.id (max p.a.1 p.ballot) ≤ max p.a.1 p.ballot then (p, []) else
  ({ p with ballot := nextB p.id (max p.a.1 p.ballot), idle := 0, got := [(p.id, (prepP p.a (nextB p.id (max p.a.1 p.ballot))).2.1)], acks := [], a := (prepP p.a (nextB p.id (max p.a.1 p.ballot))).1 },
    tellsTo p.id { ltr0 with kind := 1, bal := nextB p.id (max p.a.1 p.ballot) } 3)

theorem stand_sat (p : Rpl) (hl : p.a.2.length ≤ 1048576) (σ : Sto) : SatCall Try.prog 22 [.ptr (σ.length + 0) 0] (σ ++ [.cells (wkC p [])]) fun x s => x = .tup [] ∧ s = σ ++ [.cells (wkC (standP p).1 (standP p).2)] := by
  refine sat_fn tab Try.func22 rfl (Nat.le_of_ble_eq_true rfl) (by decide) fun hso => ?_
  repeat' (first | (apply og_ops; (first | (apply og_move; (apply op_move (tt := tt); (focus ((conv => lhs; whnf); try exact rfl)); exact rfl)) | (apply og_assign; (apply op_assign (tt := tt); (focus ((conv => lhs; whnf); try exact rfl)); exact rfl)) | (apply og_bin; (first | (apply op_bin true tab; (focus ((conv => lhs; whnf; arg 1; whnf; arg 2; whnf); try exact rfl)); (first | exact trivial | omega); exact rfl) | (apply op_bin false tab; (focus ((conv => lhs; whnf; arg 1; whnf; arg 2; whnf); try exact rfl)); (exact trivial); exact rfl))) | (apply og_load; (apply op_lk; (apply lk_loadX tab; exact rfl; exact rfl; exact rfl; (focus ((conv => lhs; whnf; arg 1; whnf; arg 2; whnf); try skip)); (first | exact trivial | exact Nat.le_of_ble_eq_true rfl)); (intro c h; cases h); exact rfl)) | (apply og_callb; (apply op_max (tt := tt); (focus ((conv => lhs; whnf; arg 1; whnf; arg 2; whnf); try exact rfl)); (exact trivial); exact rfl)) | (apply og_fieldAddr; (apply op_lk; (apply lk_fieldAddrB tab; exact rfl; (focus ((conv => lhs; whnf); try exact rfl)); exact rfl; (first | exact (rfl : _ = 0) | exact (rfl : _ = 1) | exact (rfl : _ = 3) | exact (rfl : _ = 5) | exact (rfl : _ = 7) | exact (rfl : _ = 10))); (intro c h; cases h); exact rfl)) | (apply og_conv; (apply op_conv false tab; (focus ((conv => lhs; whnf; arg 1; whnf; arg 2; whnf); try exact rfl)); (exact trivial); exact rfl)) | (apply og_store; (apply op_storeX tab; exact rfl; exact rfl; exact rfl; (focus ((conv => lhs; whnf); try exact rfl)); exact rfl; exact rfl; exact rfl; exact rfl)) | (apply og_nilCheck; (apply op_lk; (apply lk_nilCheck (tt := tt); (focus ((conv => lhs; whnf); try exact rfl))); (intro c h; cases h); exact rfl)) | (apply ops_nil))) | (apply og_sat; (first | (apply sat_seq) | (apply sat_region) | (apply sat_cond; exact (rfl : _ = PV.bool _); all_goals intro hb) | (apply sat_skip) | (apply sat_ret) | (apply sat_drawC (k := 11); exact mixed; decide +kernel; decide +kernel))) | (apply pe_norm) | (apply pe_ret) | (apply og_dd; (first | (apply dd_lk; (first | (apply lg_move; (apply lk_move (tt := tt); (focus ((conv => lhs; whnf); try exact rfl)))) | (apply lg_fieldAddr; (first | (apply lk_fieldAddrB tab; exact rfl; (focus ((conv => lhs; whnf); try exact rfl)); exact rfl; (first | exact (rfl : _ = 0) | exact (rfl : _ = 1))) | (apply lk_fieldAddr tab; (focus ((conv => lhs; whnf; arg 1; whnf; arg 2; whnf); try exact rfl)); (exact Nat.ne_of_beq_eq_false rfl)))) | (apply lg_load; (apply lk_loadX tab; exact rfl; exact rfl; exact rfl; (focus ((conv => lhs; whnf; arg 1; whnf; arg 2; whnf); try skip)); (exact trivial))) | (apply lg_nilCheck; (apply lk_nilCheck (tt := tt); (focus ((conv => lhs; whnf); try exact rfl))))); exact rfl; exact rfl) | (apply dd_nil))))
  · have h : nextB p.id (max p.a.1 p.ballot) ≤ max p.a.1 p.ballot := of_decide_eq_true hb
    (change fnPost _ _ _ _ _ _ _; apply fn_endB; (exact .inr rfl); (focus (repeat' (exact rr_nil))); exact rfl; exact rfl; exact hso; (focus (repeat' (exact trivial))); (focus (repeat' (first | exact trivial | exact And.intro trivial trivial | refine And.intro ?_ ?_))))
    exact ⟨rfl, by rw [standP, if_pos h]⟩
  have h : ¬ nextB p.id (max p.a.1 p.ballot) ≤ max p.a.1 p.ballot := of_decide_eq_false hb
  have hp := prepare_sat p.a (nextB p.id (max p.a.1 p.ballot)) hl
  rw [standP, if_neg h]
  refine ops_sto (σ' := σ ++ [.cells (wkC { p with ballot := nextB p.id (max p.a.1 p.ballot), idle := 0, got := [], acks := [] } [])]) rfl ?_
  refine op_callP (tt := tt) cal30 (hp _) rfl rfl rfl rfl rfl ?_
  repeat' (first | (apply og_ops; (first | (apply og_move; (apply op_move (tt := tt); (focus ((conv => lhs; whnf); try exact rfl)); exact rfl)) | (apply og_assign; (apply op_assign (tt := tt); (focus ((conv => lhs; whnf); try exact rfl)); exact rfl)) | (apply og_fieldAddr; (apply op_lk; (apply lk_fieldAddrB tab; exact rfl; (focus ((conv => lhs; whnf); try exact rfl)); exact rfl; (first | exact (rfl : _ = 0) | exact (rfl : _ = 5))); (intro c h; cases h); exact rfl)) | (apply og_extract; (apply op_extract (tt := tt); (focus ((conv => lhs; whnf; arg 1; whnf; arg 2; whnf); try exact rfl)); (exact trivial); exact rfl)) | (apply og_store; (apply op_storeX tab; exact rfl; exact rfl; exact rfl; (focus ((conv => lhs; whnf); try exact rfl)); exact rfl; exact rfl; exact rfl; exact rfl)) | (apply og_build; (apply op_lk; (apply lk_build tab; exact rfl; (focus ((conv => lhs; whnf; arg 1; whnf; arg 2; whnf); try skip))); (intro c h; cases h); exact rfl)) | (apply og_buildSlice; (apply op_buildSliceX .ow tab; exact rfl; (focus ((repeat (apply opvs_cons; (focus ((conv => lhs; whnf); try exact rfl)))); exact opvs_nil)); exact rfl; exact rfl; exact rfl; exact rfl; exact rfl; exact rfl)) | (apply og_alloc; (apply op_allocX tab; exact rfl; exact rfl; (exact (rfl : _ = 1)); exact rfl)) | (apply og_nilCheck; (apply op_lk; (apply lk_nilCheck (tt := tt); (focus ((conv => lhs; whnf); try exact rfl))); (intro c h; cases h); exact rfl)) | (apply ops_nil))) | (apply og_sat; (first | (apply sat_seq) | (apply sat_region) | (apply sat_drawG1 (id := 5) (k := 15) (keys := [[65], [66], [67], [68], [69], [70], [71], [72], [73], [74], [75], [76], [77], [78], []]) (j := 14); exact mixed; decide +kernel; decide +kernel))) | (apply pe_norm) | (first | (apply so_lk; (first | (apply lg_move; (apply lk_move (tt := tt); (focus ((conv => lhs; whnf); try exact rfl)))) | (apply lg_fieldAddr; (apply lk_fieldAddrB tab; exact rfl; (focus ((conv => lhs; whnf); try exact rfl)); exact rfl; (first | exact (rfl : _ = 0) | exact (rfl : _ = 1)))) | (apply lg_load; (apply lk_loadX tab; exact rfl; exact rfl; exact rfl; (focus ((conv => lhs; whnf; arg 1; whnf; arg 2; whnf); try skip)); (first | exact trivial | exact Nat.le_of_ble_eq_true rfl))) | (apply lg_build; (apply lk_build tab; exact rfl; (focus ((conv => lhs; whnf; arg 1; whnf; arg 2; whnf); try skip)))) | (apply lg_nilCheck; (apply lk_nilCheck (tt := tt); (focus ((conv => lhs; whnf); try exact rfl))))); exact rfl; exact rfl) | (apply og_so; intro env0)) | (apply eg3; exact rfl; exact rfl; exact rfl) | (apply og_oth; (first | exact oth_nil | (apply oth_same; exact rfl) | (apply oth_no; decide +kernel) | (apply oth_yes))) | (apply og_dg; (first | (apply dg_n) | (apply dg_nil))) | (apply og_dj; (first | (apply dg_turn0_0; exact rfl; exact rfl) | (apply dg_step0_1; exact rfl; exact rfl; exact rfl; exact rfl))))
  refine ops_sto (σ' := σ ++ [.cells (wkC { p with ballot := nextB p.id (max p.a.1 p.ballot), idle := 0, got := [(p.id, (prepP p.a (nextB p.id (max p.a.1 p.ballot))).2.1)], acks := [], a := (prepP p.a (nextB p.id (max p.a.1 p.ballot))).1 } []), .cells (acp (prepP p.a (nextB p.id (max p.a.1 p.ballot))).1).cells]) rfl ?_
  refine op_callM (tt := tt) (k := 0) cal21 rfl (tell_sat { p with ballot := nextB p.id (max p.a.1 p.ballot), idle := 0, got := [(p.id, (prepP p.a (nextB p.id (max p.a.1 p.ballot))).2.1)], acks := [], a := (prepP p.a (nextB p.id (max p.a.1 p.ballot))).1 } [] { ltr0 with kind := 1, bal := nextB p.id (max p.a.1 p.ballot) } (Nat.zero_le _)) trivial (wkC_lt _ _) rfl rfl rfl rfl rfl ?_
  repeat' (apply og_ops; (apply ops_nil))
  (change fnPost _ _ _ _ _ _ _; apply fn_endB; (exact .inl rfl); (focus (repeat' (exact rr_nil))); exact rfl; exact rfl; exact hso; (focus (repeat' (exact trivial))); (focus (repeat' (first | exact trivial | exact And.intro trivial trivial | refine And.intro ?_ ?_))))
  exact ⟨rfl, rfl⟩

end Go.Proofs.Ytbhefogimhlkmaa.Pv
