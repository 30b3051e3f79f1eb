/- The command of bytes: index.Take. -/
import Derived.Test.YtbjmafbbjhoddaaLibTakeC
namespace Go.Proofs.Ytbjmafbbjhoddaa.Pv
open Go
set_option linter.unusedVariables false
set_option linter.unusedSimpArgs false
set_option maxRecDepth 100000

def rdN (s : ByteArray) (top : Nat) : Option (Nat × ByteArray) := if okN s top then some ((takeN s).1, (takeN s).2.1) else none
def rdT (s : ByteArray) : Option (ByteArray × ByteArray) := if (takeT s 16).2.2 = 0 then some ((takeT s 16).1, (takeT s 16).2.1) else none
def rdP : Nat → ByteArray → List (Int × Int) → Option (List (Int × Int) × ByteArray)
  | 0, s, acc => some (acc, s)
  | n + 1, s, acc => (rdN s 3).bind fun a => (rdN a.2 63).bind fun b => rdP n b.2 (acc ++ [((a.1 : Int), (b.1 : Int))])
def fin15 (c : Cm) (s : ByteArray) : Option Cm := if s = ⟨#[]⟩ ∧ mayC c = true then some c else none
def takeC (s : ByteArray) : Option Cm :=
  (rdN s 9).bind fun k => (rdN k.2 16).bind fun cl => (rdN cl.2 1073741824).bind fun sq => (rdT sq.2).bind fun nm =>
  (rdN nm.2 1048576).bind fun vo => (rdN vo.2 1048576).bind fun off => (rdN off.2 1048576).bind fun n => (rdN n.2 4294967295).bind fun su =>
  (rdN su.2 1048576).bind fun re => (rdN re.2 1048576).bind fun ma => (rdN ma.2 1048576).bind fun idx => (rdN idx.2 14).bind fun m =>
  (rdP m.1 m.2 []).bind fun ps => fin15 ⟨k.1, cl.1, sq.1, nm.1, vo.1, off.1, n.1, su.1, re.1, ma.1, idx.1, ps.1⟩ ps.2
def cmOut : Option Cm → PV
  | none => .tup [cm ⟨0, 0, 0, ⟨#[]⟩, 0, 0, 0, 0, 0, 0, 0, []⟩, .int .i64 3]
  | some c => .tup [cm c, .int .i64 0]

theorem rdN_bound {s : ByteArray} {top : Nat} {v : Nat} {r : ByteArray} (h : rdN s top = some (v, r)) : r.size ≤ s.size ∧ v ≤ top := by
  unfold rdN at h
  split at h
  · rename_i h1; cases h; exact ⟨(takeN_bound s).2, h1.2⟩
  · cases h
theorem rdT_bound {s : ByteArray} {v r : ByteArray} (h : rdT s = some (v, r)) : r.size ≤ s.size ∧ v.size ≤ 16 := by
  have hb : (takeT s 16).2.1.size ≤ s.size ∧ (takeT s 16).1.size ≤ 16 := by
    obtain ⟨h1, h2⟩ := takeN_bound s
    unfold takeT
    split
    · exact ⟨Nat.zero_le _, Nat.zero_le _⟩
    split
    · exact ⟨Nat.zero_le _, Nat.zero_le _⟩
    split
    · exact ⟨Nat.zero_le _, Nat.zero_le _⟩
    · simp only [ByteArray.size_extract]; omega
  unfold rdT at h
  split at h
  · cases h; exact hb
  · cases h

section
variable {l : Option Nat} {n m : Nat} {env : Env} {σ τ ex : Sto} {Q : Post} {all : Array Oper} {rest : List Oper} {d : Nat} {ty : TypeId} {pos : String} {after : Array Edge}
theorem op_num {s : ByteArray} (k top : Nat) {fo : Operand} {args : Array Operand} {ats : Array TypeId} (hk : ex[k]? = some (.cells [.str s])) (hs : s.size ≤ 9223372036854775807) (ht : Nat.ble top 4294967296 = true)
    (hfo : fo = .func 58) (hps : passL tt env args.toList ats.toList = [.ptr (τ.length + k) 0, .int .u64 top]) (hlen : Nat.ble args.size ats.size = true) (hd : Nat.ble (d + 1) n = true)
    (hz : rdN s top = none → Q (.panic oddCh) env (τ ++ ex)) (h : ∀ v r, rdN s top = some (v, r) → r.size ≤ s.size → v ≤ top → SatOps Try.prog l n m all rest ((d, .int .i64 v) :: env) (τ ++ ex.set k (.cells [.str r])) Q) :
    SatOps Try.prog l n m all (⟨some d, .call ⟨.value fo, args, ats⟩, ty, pos, after, none⟩ :: rest) env (τ ++ ex) Q := by
  refine op_callME (tt := tt) (k := k) (cs := [.str s]) (cs' := [.str (takeN s).2.1]) (c := okN s top) (p := .int .i64 (takeN s).1) (Z := fun ch => ch = oddCh) cal58 hk (fun σ => rnum_sat s top hs (Nat.le_of_ble_eq_true ht) σ) trivial (by simp [ltAll, PV.lt]) (by simp [ltAll, PV.lt]) hfo hps hlen rfl hd ?_ ?_
  · rintro hn ch rfl
    exact hz (by unfold rdN; rw [if_neg hn])
  · intro hc
    have e : rdN s top = some ((takeN s).1, (takeN s).2.1) := by unfold rdN; rw [if_pos hc]
    exact h _ _ e (rdN_bound e).1 (rdN_bound e).2
end

abbrev QT (s : ByteArray) (σ : Sto) : Post := fnPostD Try.prog tt Try.f29 σ.length (fun x σ' => x = cmOut (takeC s) ∧ σ' = σ) 57 [.ptr (σ.length + 0) 0, .ptr (σ.length + 1) 0]

theorem take_pan {s : ByteArray} {σ rest : Sto} {env : Env} {C E : List PV} (hsp : takeC s = none) (hso : StoOK σ) (hC : C.length = 12) (hE : E.length = 1) (h2 : look env 2 = .ptr (σ.length + 0) 0) (h3 : look env 3 = .ptr (σ.length + 1) 0) :
    QT s σ (.panic oddCh) env (σ ++ .cells C :: .cells E :: rest) := by
  refine ⟨.panicking oddCh, .panicking oddCh', σ ++ .cells zeroC :: .cells [.int .i64 3] :: rest, .inr ⟨_, rfl, rfl⟩, rfl, rfl, take1_pan σ rest C E hC hE, .inr rfl, [cm ⟨0, 0, 0, ⟨#[]⟩, 0, 0, 0, 0, 0, 0, 0, []⟩, .int .i64 3], σ, _, ?_, ?_, rfl, .inr ⟨Nat.le_refl _, hso⟩, ?_, ?_⟩
  · refine ⟨⟨_, _, _, _, _, h2, rfl, getX 0, rfl, ?_⟩, ⟨_, _, _, _, _, h3, rfl, getX 1, rfl, ?_⟩, trivial⟩
    all_goals trivial
  · intro p hp; simp [cm] at hp; rcases hp with rfl | rfl <;> rfl
  · simp [cm, ltAll, PV.lt]
  · rw [hsp]; exact ⟨rfl, rfl⟩

theorem take_ret {s : ByteArray} {σ rest : Sto} {env : Env} {C E : List PV} {p : PV} {e : Int} (hso : StoOK σ) (hC : ∃ c, loadB ti30 C 0 = some (c, p) ∧ c) (hp : p.isTup = false ∧ p.lt 0) (hE : E = [.int .i64 e]) (h2 : look env 2 = .ptr (σ.length + 0) 0) (h3 : look env 3 = .ptr (σ.length + 1) 0)
    (hsp : cmOut (takeC s) = .tup [p, .int .i64 e]) : QT s σ .ret env (σ ++ .cells C :: .cells E :: rest) := by
  subst hE
  obtain ⟨c, hc1, hc2⟩ := hC
  refine ⟨.returning, .returning, σ ++ .cells C :: .cells [.int .i64 e] :: rest, .inl ⟨.inr rfl, rfl⟩, rfl, rfl, take1_ret _ _ rfl, .inr rfl, [p, .int .i64 e], σ, _, ?_, ?_, rfl, .inr ⟨Nat.le_refl _, hso⟩, ?_, ?_⟩
  · refine ⟨⟨_, _, _, _, _, h2, rfl, getX 0, hc1, hc2⟩, ⟨_, _, _, _, _, h3, rfl, getX 1, rfl, ?_⟩, trivial⟩
    all_goals trivial
  · intro q hq; simp at hq; rcases hq with rfl | rfl
    · exact hp.1
    · rfl
  · exact ⟨lt_mono (Nat.zero_le _) hp.2, trivial, trivial⟩
  · rw [hsp]; exact ⟨rfl, rfl⟩

set_option maxHeartbeats 4000000 in
theorem takeC_sat (s : ByteArray) (hs : s.size ≤ 9223372036854775807) (σ : Sto) : SatCall Try.prog 29 [.str s] σ fun x σ' => x = cmOut (takeC s) ∧ σ' = σ := by
  by_cases hso : StoOK σ
  case neg => exact fun F G w vs _ hs => absurd hs.stolt hso
  refine sat_fnD (g := 57) (cs := [.ptr (σ.length + 0) 0, .ptr (σ.length + 1) 0]) (env1 := [(3, .ptr (σ.length + 1) 0), (2, .ptr (σ.length + 0) 0), (0, .str s)])
    (σ1 := σ ++ [.cells [.int .i64 0, .int .i64 0, .int .i64 0, .str ByteArray.empty, .int .i64 0, .int .i64 0, .int .i64 0, .int .u32 0, .int .i64 0, .int .i64 0, .int .i64 0, .sl .ow 2 []], .cells [.int .i64 0]])
    tab Try.func29 rfl (Nat.le_of_ble_eq_true rfl) (by decide) (ltn rfl) cal57 ?_ (fun _ => satK_region rfl ?_) ?_ fun _ => ?_
  · exact ⟨by show σ.length + 0 < _; simp, by show σ.length + 1 < _; simp, trivial⟩
  · refine ops_sto (σ' := σ ++ []) (List.append_nil σ).symm ?_
    repeat' (apply og_ops; (first | (apply og_alloc; (apply op_allocX tab; exact rfl; exact rfl; (first | exact (rfl : _ = 0) | exact (rfl : _ = 1)); exact rfl)) | (apply ops_nil)))
    exact ⟨rfl, rfl, rfl⟩
  · exact lk_makeFunc (tt := tt) rfl rfl rfl
  have hsp : takeC s = takeC s := rfl
  conv at hsp => rhs; unfold takeC
  repeat' (first | (apply og_ops; (first | (apply og_move; (apply op_move (tt := tt); (focus ((conv => lhs; whnf); try exact rfl)); exact rfl)) | (apply og_assign; (apply op_assign (tt := tt); (focus ((conv => lhs; whnf); try exact rfl)); exact rfl)) | (apply og_build; (apply op_lk; (apply lk_build tab.nils; exact rfl; (focus ((conv => lhs; whnf; arg 1; whnf; arg 2; whnf); try skip))); (intro c h; cases h); exact rfl)) | (apply og_box; (apply op_boxNX (tt := tt); (focus ((conv => lhs; whnf); try exact rfl)); exact rfl; (exact (rfl : _ = 2)); exact rfl)) | (apply ops_nil))) | (apply og_sat; (first | (apply sat_seq) | (apply sat_region))) | (apply pe_norm))
  refine op_num (s := s) 2 9 rfl (by omega) rfl rfl rfl rfl rfl (fun hz => ?_) (fun v1 r1 e1 b1 l1 => ?_)
  · rw [hz] at hsp
    repeat (first | apply pe_panic | apply pb_panic)
    exact take_pan hsp hso rfl rfl rfl rfl
  rw [e1] at hsp
  dsimp only [Option.bind_some] at hsp
  repeat' (apply og_ops; (apply og_move; (apply op_move (tt := tt); (focus ((conv => lhs; whnf); try exact rfl)); exact rfl)))
  refine op_num (s := r1) 2 16 rfl (by omega) rfl rfl rfl rfl rfl (fun hz => ?_) (fun v2 r2 e2 b2 l2 => ?_)
  · rw [hz] at hsp
    repeat (first | apply pe_panic | apply pb_panic)
    exact take_pan hsp hso rfl rfl rfl rfl
  rw [e2] at hsp
  dsimp only [Option.bind_some] at hsp
  repeat' (first | (apply og_ops; (first | (apply og_move; (apply op_move (tt := tt); (focus ((conv => lhs; whnf); try exact rfl)); exact rfl)) | (apply og_store; (apply op_storeNX tab; exact rfl; exact rfl; exact rfl; (focus ((conv => lhs; whnf); try exact rfl)); exact rfl; exact rfl; exact rfl; exact rfl)) | (apply og_build; (apply op_lk; (apply lk_build tab.nils; exact rfl; (focus ((conv => lhs; whnf; arg 1; whnf; arg 2; whnf); try skip))); (intro c h; cases h); exact rfl)) | (apply ops_nil))) | (apply og_sat; (first | (apply sat_seq) | (apply sat_region))) | (apply pe_norm))
  refine op_num (s := r2) 2 1073741824 rfl (by omega) rfl rfl rfl rfl rfl (fun hz => ?_) (fun v3 r3 e3 b3 l3 => ?_)
  · rw [hz] at hsp
    repeat (first | apply pe_panic | apply pb_panic)
    exact take_pan hsp hso rfl rfl rfl rfl
  rw [e3] at hsp
  dsimp only [Option.bind_some] at hsp
  repeat' (first | (apply og_ops; (first | (apply og_move; (apply op_move (tt := tt); (focus ((conv => lhs; whnf); try exact rfl)); exact rfl)) | (apply og_load; (apply op_lk; (apply lk_loadX tab; exact rfl; exact rfl; exact rfl; (focus ((conv => lhs; whnf; arg 1; whnf; arg 2; whnf); try skip)); (exact trivial)); (intro c h; cases h); exact rfl)) | (apply og_fieldAddr; (apply op_lk; (apply lk_fieldAddrB tab; exact rfl; (focus ((conv => lhs; whnf); try exact rfl)); exact rfl; (first | exact (rfl : _ = 0) | exact (rfl : _ = 2))); (intro c h; cases h); exact rfl)) | (apply og_store; (apply op_storeNX tab; exact rfl; exact rfl; exact rfl; (focus ((conv => lhs; whnf); try exact rfl)); exact rfl; exact rfl; exact rfl; exact rfl)) | (apply og_nilCheck; (apply op_lk; (apply lk_nilCheck (tt := tt); (focus ((conv => lhs; whnf); try exact rfl))); (intro c h; cases h); exact rfl)) | (apply ops_nil))) | (apply og_sat; (first | (apply sat_seq) | (apply sat_region))) | (apply pe_norm))
  refine ops_env [(29, .str r3), (4, .ptr (σ.length + 2) 0), (3, .ptr (σ.length + 1) 0), (2, .ptr (σ.length + 0) 0)] ?_ (ops_sto (σ' := σ ++ [.cells [.int .i64 v1, .int .i64 v2, .int .i64 v3, .str ByteArray.empty, .int .i64 0, .int .i64 0, .int .i64 0, .int .u32 0, .int .i64 0, .int .i64 0, .int .i64 0, .sl .ow 2 []], .cells [.int .i64 0], .cells [.str r3]]) rfl ?_)
  · (repeat' (first | exact trivial | exact Wk.same _ | refine ⟨?_, ?_⟩))
  have tT := takeText_sat r3 16 (by omega) (by decide)
  cases hT : rdT r3 with
  | none =>
    rw [hT] at hsp
    unfold rdT at hT
    generalize takeT r3 16 = q at *
    obtain ⟨nm, r4, e4⟩ := q
    dsimp only [textOut] at *
    have h4 : e4 ≠ 0 := fun h => by rw [if_pos h] at hT; cases hT
    have c4 : (e4 != 0) = true := by simpa using h4
    repeat' (first | (apply og_ops; (first | (apply og_move; (apply op_move (tt := tt); (focus ((conv => lhs; whnf); try exact rfl)); exact rfl)) | (apply og_assign; (apply op_assign (tt := tt); (focus ((conv => lhs; whnf); try exact rfl)); exact rfl)) | (apply og_callv; (refine op_callP (tt := tt) cal59 (tT _) rfl rfl rfl rfl rfl ?_)) | (apply og_bin; (apply op_bin true tab; (focus ((conv => lhs; whnf; arg 1; whnf; arg 2; whnf); try exact rfl)); (exact trivial); exact rfl)) | (apply og_extract; (apply op_extract (tt := tt); (focus ((conv => lhs; whnf; arg 1; whnf; arg 2; whnf); try exact rfl)); (exact trivial); exact rfl)) | (apply og_build; (apply op_lk; (apply lk_build tab.nils; exact rfl; (focus ((conv => lhs; whnf; arg 1; whnf; arg 2; whnf); try skip))); (intro c h; cases h); exact rfl)) | (apply ops_nil))) | (apply og_sat; (first | (apply sat_seq) | (apply sat_region) | (apply sat_cond_t; exact rfl; (assumption)))) | (apply pe_norm))
    refine op_lk (lk_mkIface (tt := tt) Try.underlying113 rfl) (by simp) rfl ?_
    refine op_panicR (tt := tt) rfl ?_
    repeat (first | apply pe_panic | apply pb_panic)
    exact take_pan hsp hso rfl rfl rfl rfl
  | some q4 =>
  obtain ⟨nm, r4⟩ := q4
  obtain ⟨b4, b4'⟩ := rdT_bound hT
  rw [hT] at hsp
  dsimp only [Option.bind_some] at hsp
  have hT' : takeT r3 16 = (nm, r4, 0) := by
    unfold rdT at hT
    split at hT
    · rename_i h
      cases hT
      rw [← h]
    · cases hT
  rw [hT'] at tT
  dsimp only [textOut] at tT
  repeat' (first | (apply og_ops; (first | (apply og_move; (apply op_move (tt := tt); (focus ((conv => lhs; whnf); try exact rfl)); exact rfl)) | (apply og_assign; (apply op_assign (tt := tt); (focus ((conv => lhs; whnf); try exact rfl)); exact rfl)) | (apply og_callv; (refine op_callP (tt := tt) cal59 (tT _) rfl rfl rfl rfl rfl ?_)) | (apply og_bin; (apply op_bin true tab; (focus ((conv => lhs; whnf; arg 1; whnf; arg 2; whnf); try exact rfl)); (exact trivial); exact rfl)) | (apply og_fieldAddr; (apply op_lk; (apply lk_fieldAddrB tab; exact rfl; (focus ((conv => lhs; whnf); try exact rfl)); exact rfl; (first | exact (rfl : _ = 0) | exact (rfl : _ = 3) | exact (rfl : _ = 4) | exact (rfl : _ = 5) | exact (rfl : _ = 6))); (intro c h; cases h); exact rfl)) | (apply og_extract; (apply op_extract (tt := tt); (focus ((conv => lhs; whnf; arg 1; whnf; arg 2; whnf); try exact rfl)); (exact trivial); exact rfl)) | (apply og_store; (apply op_storeNX tab; exact rfl; exact rfl; exact rfl; (focus ((conv => lhs; whnf); try exact rfl)); exact rfl; exact rfl; exact rfl; exact rfl)) | (apply og_nilCheck; (apply op_lk; (apply lk_nilCheck (tt := tt); (focus ((conv => lhs; whnf); try exact rfl))); (intro c h; cases h); exact rfl)) | (apply ops_nil))) | (apply og_sat; (first | (apply sat_seq) | (apply sat_region) | (apply sat_cond_f; exact rfl; (exact rfl)) | (apply sat_skip))) | (apply pe_norm))
  refine ops_env [(44, .ptr (σ.length + 0) 4), (45, .ptr (σ.length + 0) 5), (46, .ptr (σ.length + 0) 6), (4, .ptr (σ.length + 2) 0), (3, .ptr (σ.length + 1) 0), (2, .ptr (σ.length + 0) 0)] ?_ (ops_sto (σ' := σ ++ [.cells [.int .i64 v1, .int .i64 v2, .int .i64 v3, .str nm, .int .i64 0, .int .i64 0, .int .i64 0, .int .u32 0, .int .i64 0, .int .i64 0, .int .i64 0, .sl .ow 2 []], .cells [.int .i64 0], .cells [.str r4]]) rfl ?_)
  · (repeat' (first | exact trivial | exact Wk.same _ | refine ⟨?_, ?_⟩))
  refine op_buildPtrX (k := 3) (es := [.ptr (σ.length + 0) 4, .ptr (σ.length + 0) 5, .ptr (σ.length + 0) 6]) tab rfl rfl (by (repeat (apply opvs_cons; (focus ((conv => lhs; whnf); try exact rfl)))); exact opvs_nil) (by intro p hp; simp at hp; rcases hp with rfl | rfl | rfl <;> exact ⟨_, _, rfl⟩) rfl rfl rfl rfl rfl ?_
  repeat' (first | (apply og_ops; (first | (apply og_move; (apply op_move (tt := tt); (focus ((conv => lhs; whnf); try exact rfl)); exact rfl)) | (apply og_callb; (apply op_len tab; (focus ((conv => lhs; whnf; arg 1; whnf; arg 2; whnf); try exact rfl)); (exact trivial); exact rfl)) | (apply ops_nil))) | (apply og_sat; (apply sat_block)) | (apply pe_norm))
  refine sat_rounds 4 ?_
  change Sat _ _ _ _ _ _ _ _
  refine sat_env [(49, .int .i64 0), (48, .int .i64 3), (47, .bsl (σ.length + 3) 0 1 3 3), (4, .ptr (σ.length + 2) 0), (3, .ptr (σ.length + 1) 0), (2, .ptr (σ.length + 0) 0)] ?_ (sat_sto (σ' := σ ++ [.cells [.int .i64 v1, .int .i64 v2, .int .i64 v3, .str nm, .int .i64 0, .int .i64 0, .int .i64 0, .int .u32 0, .int .i64 0, .int .i64 0, .int .i64 0, .sl .ow 2 []], .cells [.int .i64 0], .cells [.str r4], .cells [.ptr (σ.length + 0) 4, .ptr (σ.length + 0) 5, .ptr (σ.length + 0) 6]]) rfl ?_)
  · (repeat' (first | exact trivial | exact Wk.same _ | refine ⟨?_, ?_⟩))
  repeat' (first | (apply og_ops; (first | (apply og_move; (apply op_move (tt := tt); (focus ((conv => lhs; whnf); try exact rfl)); exact rfl)) | (apply og_assign; (apply op_assign (tt := tt); (focus ((conv => lhs; whnf); try exact rfl)); exact rfl)) | (apply og_bin; (apply op_bin true tab; (focus ((conv => lhs; whnf; arg 1; whnf; arg 2; whnf); try exact rfl)); (exact trivial); exact rfl)) | (apply og_load; (apply op_lk; (apply lk_loadX tab; exact rfl; exact rfl; exact rfl; (focus ((conv => lhs; whnf; arg 1; whnf; arg 2; whnf); try skip)); (exact trivial)); (intro c h; cases h); exact rfl)) | (apply og_indexAddr; (apply op_lk; (apply lk_idxB (tI := 3) tab; exact rfl; (focus ((conv => lhs; whnf); try exact rfl)); (focus ((conv => lhs; whnf); try exact rfl)); exact rfl; (omega)); (intro c h; cases h); exact rfl)) | (apply ops_nil))) | (apply og_sat; (first | (apply sat_seq) | (apply sat_region) | (apply sat_cond_t; exact rfl; (exact rfl)) | (apply sat_skip) | (apply sat_block))) | (apply pe_norm))
  refine ops_env [(53, .ptr (σ.length + 0) 4), (54, .ptr (σ.length + 2) 0), (49, .int .i64 0), (48, .int .i64 3), (47, .bsl (σ.length + 3) 0 1 3 3), (4, .ptr (σ.length + 2) 0), (3, .ptr (σ.length + 1) 0), (2, .ptr (σ.length + 0) 0)] ?_ (ops_sto (σ' := σ ++ [.cells [.int .i64 v1, .int .i64 v2, .int .i64 v3, .str nm, .int .i64 0, .int .i64 0, .int .i64 0, .int .u32 0, .int .i64 0, .int .i64 0, .int .i64 0, .sl .ow 2 []], .cells [.int .i64 0], .cells [.str r4], .cells [.ptr (σ.length + 0) 4, .ptr (σ.length + 0) 5, .ptr (σ.length + 0) 6]]) rfl ?_)
  · (repeat' (first | exact trivial | exact Wk.same _ | refine ⟨?_, ?_⟩))
  refine op_num (s := r4) 2 1048576 rfl (by omega) rfl rfl rfl rfl rfl (fun hz => ?_) (fun v5 r5 e5 b5 l5 => ?_)
  · rw [hz] at hsp
    repeat (first | apply pe_panic | apply pb_panic)
    exact take_pan hsp hso rfl rfl rfl rfl
  rw [e5] at hsp
  dsimp only [Option.bind_some] at hsp
  repeat' (first | (apply og_ops; (first | (apply og_move; (apply op_move (tt := tt); (focus ((conv => lhs; whnf); try exact rfl)); exact rfl)) | (apply og_assign; (apply op_assign (tt := tt); (focus ((conv => lhs; whnf); try exact rfl)); exact rfl)) | (apply og_bin; (apply op_bin true tab; (focus ((conv => lhs; whnf; arg 1; whnf; arg 2; whnf); try exact rfl)); (first | exact trivial | (simp only [InR]; omega)); exact rfl)) | (apply og_load; (apply op_lk; (apply lk_loadX tab; exact rfl; exact rfl; exact rfl; (focus ((conv => lhs; whnf; arg 1; whnf; arg 2; whnf); try skip)); (exact trivial)); (intro c h; cases h); exact rfl)) | (apply og_indexAddr; (apply op_lk; (apply lk_idxB (tI := 3) tab; exact rfl; (focus ((conv => lhs; whnf); try exact rfl)); (focus ((conv => lhs; whnf); try exact rfl)); exact rfl; (omega)); (intro c h; cases h); exact rfl)) | (apply og_store; (apply op_storeNX tab; exact rfl; exact rfl; exact rfl; (focus ((conv => lhs; whnf); try exact rfl)); exact rfl; exact rfl; exact rfl; exact rfl)) | (apply og_nilCheck; (apply op_lk; (apply lk_nilCheck (tt := tt); (focus ((conv => lhs; whnf); try exact rfl))); (intro c h; cases h); exact rfl)) | (apply ops_nil))) | (apply og_sat; (first | (apply sat_seq) | (apply sat_region) | (apply sat_cond_t; exact rfl; (exact rfl)) | (apply sat_skip) | (apply sat_block))) | (apply pe_norm) | (apply pb_norm))
  refine ops_env [(53, .ptr (σ.length + 0) 5), (54, .ptr (σ.length + 2) 0), (49, .int .i64 1), (48, .int .i64 3), (47, .bsl (σ.length + 3) 0 1 3 3), (4, .ptr (σ.length + 2) 0), (3, .ptr (σ.length + 1) 0), (2, .ptr (σ.length + 0) 0)] ?_ (ops_sto (σ' := σ ++ [.cells [.int .i64 v1, .int .i64 v2, .int .i64 v3, .str nm, .int .i64 v5, .int .i64 0, .int .i64 0, .int .u32 0, .int .i64 0, .int .i64 0, .int .i64 0, .sl .ow 2 []], .cells [.int .i64 0], .cells [.str r5], .cells [.ptr (σ.length + 0) 4, .ptr (σ.length + 0) 5, .ptr (σ.length + 0) 6]]) rfl ?_)
  · (repeat' (first | exact trivial | exact Wk.same _ | refine ⟨?_, ?_⟩))
  refine op_num (s := r5) 2 1048576 rfl (by omega) rfl rfl rfl rfl rfl (fun hz => ?_) (fun v6 r6 e6 b6 l6 => ?_)
  · rw [hz] at hsp
    repeat (first | apply pe_panic | apply pb_panic)
    exact take_pan hsp hso rfl rfl rfl rfl
  rw [e6] at hsp
  dsimp only [Option.bind_some] at hsp
  repeat' (first | (apply og_ops; (first | (apply og_move; (apply op_move (tt := tt); (focus ((conv => lhs; whnf); try exact rfl)); exact rfl)) | (apply og_assign; (apply op_assign (tt := tt); (focus ((conv => lhs; whnf); try exact rfl)); exact rfl)) | (apply og_bin; (apply op_bin true tab; (focus ((conv => lhs; whnf; arg 1; whnf; arg 2; whnf); try exact rfl)); (first | exact trivial | (simp only [InR]; omega)); exact rfl)) | (apply og_load; (apply op_lk; (apply lk_loadX tab; exact rfl; exact rfl; exact rfl; (focus ((conv => lhs; whnf; arg 1; whnf; arg 2; whnf); try skip)); (exact trivial)); (intro c h; cases h); exact rfl)) | (apply og_indexAddr; (apply op_lk; (apply lk_idxB (tI := 3) tab; exact rfl; (focus ((conv => lhs; whnf); try exact rfl)); (focus ((conv => lhs; whnf); try exact rfl)); exact rfl; (omega)); (intro c h; cases h); exact rfl)) | (apply og_store; (apply op_storeNX tab; exact rfl; exact rfl; exact rfl; (focus ((conv => lhs; whnf); try exact rfl)); exact rfl; exact rfl; exact rfl; exact rfl)) | (apply og_nilCheck; (apply op_lk; (apply lk_nilCheck (tt := tt); (focus ((conv => lhs; whnf); try exact rfl))); (intro c h; cases h); exact rfl)) | (apply ops_nil))) | (apply og_sat; (first | (apply sat_seq) | (apply sat_region) | (apply sat_cond_t; exact rfl; (exact rfl)) | (apply sat_skip) | (apply sat_block))) | (apply pe_norm) | (apply pb_norm))
  refine ops_env [(53, .ptr (σ.length + 0) 6), (54, .ptr (σ.length + 2) 0), (49, .int .i64 2), (48, .int .i64 3), (47, .bsl (σ.length + 3) 0 1 3 3), (4, .ptr (σ.length + 2) 0), (3, .ptr (σ.length + 1) 0), (2, .ptr (σ.length + 0) 0)] ?_ (ops_sto (σ' := σ ++ [.cells [.int .i64 v1, .int .i64 v2, .int .i64 v3, .str nm, .int .i64 v5, .int .i64 v6, .int .i64 0, .int .u32 0, .int .i64 0, .int .i64 0, .int .i64 0, .sl .ow 2 []], .cells [.int .i64 0], .cells [.str r6], .cells [.ptr (σ.length + 0) 4, .ptr (σ.length + 0) 5, .ptr (σ.length + 0) 6]]) rfl ?_)
  · (repeat' (first | exact trivial | exact Wk.same _ | refine ⟨?_, ?_⟩))
  refine op_num (s := r6) 2 1048576 rfl (by omega) rfl rfl rfl rfl rfl (fun hz => ?_) (fun v7 r7 e7 b7 l7 => ?_)
  · rw [hz] at hsp
    repeat (first | apply pe_panic | apply pb_panic)
    exact take_pan hsp hso rfl rfl rfl rfl
  rw [e7] at hsp
  dsimp only [Option.bind_some] at hsp
  repeat' (first | (apply og_ops; (first | (apply og_move; (apply op_move (tt := tt); (focus ((conv => lhs; whnf); try exact rfl)); exact rfl)) | (apply og_bin; (apply op_bin true tab; (focus ((conv => lhs; whnf; arg 1; whnf; arg 2; whnf); try exact rfl)); (first | exact trivial | (simp only [InR]; omega)); exact rfl)) | (apply og_store; (apply op_storeNX tab; exact rfl; exact rfl; exact rfl; (focus ((conv => lhs; whnf); try exact rfl)); exact rfl; exact rfl; exact rfl; exact rfl)) | (apply og_nilCheck; (apply op_lk; (apply lk_nilCheck (tt := tt); (focus ((conv => lhs; whnf); try exact rfl))); (intro c h; cases h); exact rfl)) | (apply ops_nil))) | (apply og_sat; (first | (apply sat_seq) | (apply sat_region) | (apply sat_cond_f; exact rfl; (exact rfl)) | (apply sat_exit))) | (apply pe_norm) | (apply pb_norm) | (apply pe_exit) | (apply pb_same))
  refine ops_env [(58, .ptr (σ.length + 2) 0), (4, .ptr (σ.length + 2) 0), (3, .ptr (σ.length + 1) 0), (2, .ptr (σ.length + 0) 0)] ?_ (ops_sto (σ' := σ ++ [.cells [.int .i64 v1, .int .i64 v2, .int .i64 v3, .str nm, .int .i64 v5, .int .i64 v6, .int .i64 v7, .int .u32 0, .int .i64 0, .int .i64 0, .int .i64 0, .sl .ow 2 []], .cells [.int .i64 0], .cells [.str r7], .cells [.ptr (σ.length + 0) 4, .ptr (σ.length + 0) 5, .ptr (σ.length + 0) 6]]) rfl ?_)
  · (repeat' (first | exact trivial | exact Wk.same _ | refine ⟨?_, ?_⟩))
  refine op_num (s := r7) 2 4294967295 rfl (by omega) rfl rfl rfl rfl rfl (fun hz => ?_) (fun v8 r8 e8 b8 l8 => ?_)
  · rw [hz] at hsp
    repeat (first | apply pe_panic | apply pb_panic)
    exact take_pan hsp hso rfl rfl rfl rfl
  rw [e8] at hsp
  dsimp only [Option.bind_some] at hsp
  repeat' (first | (apply og_ops; (first | (apply og_fieldAddr; (apply op_lk; (apply lk_fieldAddrB tab; exact rfl; (focus ((conv => lhs; whnf); try exact rfl)); exact rfl; (first | exact (rfl : _ = 7) | exact (rfl : _ = 8) | exact (rfl : _ = 9) | exact (rfl : _ = 10))); (intro c h; cases h); exact rfl)) | (apply og_conv; (apply op_conv true tab; (focus ((conv => lhs; whnf; arg 1; whnf; arg 2; whnf); try exact rfl)); (simp only [InR]; omega); exact rfl)) | (apply og_store; (apply op_storeNX tab; exact rfl; exact rfl; exact rfl; (focus ((conv => lhs; whnf); try exact rfl)); exact rfl; exact rfl; exact rfl; exact rfl)) | (apply ops_nil))) | (apply og_sat; (first | (apply sat_seq) | (apply sat_region))) | (apply pe_norm))
  refine ops_env [(62, .ptr (σ.length + 0) 8), (63, .ptr (σ.length + 0) 9), (64, .ptr (σ.length + 0) 10), (4, .ptr (σ.length + 2) 0), (3, .ptr (σ.length + 1) 0), (2, .ptr (σ.length + 0) 0)] ?_ (ops_sto (σ' := σ ++ [.cells [.int .i64 v1, .int .i64 v2, .int .i64 v3, .str nm, .int .i64 v5, .int .i64 v6, .int .i64 v7, .int .u32 v8, .int .i64 0, .int .i64 0, .int .i64 0, .sl .ow 2 []], .cells [.int .i64 0], .cells [.str r8], .cells [.ptr (σ.length + 0) 4, .ptr (σ.length + 0) 5, .ptr (σ.length + 0) 6]]) rfl ?_)
  · (repeat' (first | exact trivial | exact Wk.same _ | refine ⟨?_, ?_⟩))
  refine op_buildPtrX (k := 4) (es := [.ptr (σ.length + 0) 8, .ptr (σ.length + 0) 9, .ptr (σ.length + 0) 10]) tab rfl rfl (by (repeat (apply opvs_cons; (focus ((conv => lhs; whnf); try exact rfl)))); exact opvs_nil) (by intro p hp; simp at hp; rcases hp with rfl | rfl | rfl <;> exact ⟨_, _, rfl⟩) rfl rfl rfl rfl rfl ?_
  repeat' (first | (apply og_ops; (first | (apply og_move; (apply op_move (tt := tt); (focus ((conv => lhs; whnf); try exact rfl)); exact rfl)) | (apply og_callb; (apply op_len tab; (focus ((conv => lhs; whnf; arg 1; whnf; arg 2; whnf); try exact rfl)); (exact trivial); exact rfl)) | (apply ops_nil))) | (apply og_sat; (apply sat_block)) | (apply pe_norm))
  refine sat_rounds 4 ?_
  change Sat _ _ _ _ _ _ _ _
  refine sat_env [(67, .int .i64 0), (66, .int .i64 3), (65, .bsl (σ.length + 4) 0 1 3 3), (4, .ptr (σ.length + 2) 0), (3, .ptr (σ.length + 1) 0), (2, .ptr (σ.length + 0) 0)] ?_ (sat_sto (σ' := σ ++ [.cells [.int .i64 v1, .int .i64 v2, .int .i64 v3, .str nm, .int .i64 v5, .int .i64 v6, .int .i64 v7, .int .u32 v8, .int .i64 0, .int .i64 0, .int .i64 0, .sl .ow 2 []], .cells [.int .i64 0], .cells [.str r8], .cells [.ptr (σ.length + 0) 4, .ptr (σ.length + 0) 5, .ptr (σ.length + 0) 6], .cells [.ptr (σ.length + 0) 8, .ptr (σ.length + 0) 9, .ptr (σ.length + 0) 10]]) rfl ?_)
  · (repeat' (first | exact trivial | exact Wk.same _ | refine ⟨?_, ?_⟩))
  repeat' (first | (apply og_ops; (first | (apply og_move; (apply op_move (tt := tt); (focus ((conv => lhs; whnf); try exact rfl)); exact rfl)) | (apply og_assign; (apply op_assign (tt := tt); (focus ((conv => lhs; whnf); try exact rfl)); exact rfl)) | (apply og_bin; (apply op_bin true tab; (focus ((conv => lhs; whnf; arg 1; whnf; arg 2; whnf); try exact rfl)); (exact trivial); exact rfl)) | (apply og_load; (apply op_lk; (apply lk_loadX tab; exact rfl; exact rfl; exact rfl; (focus ((conv => lhs; whnf; arg 1; whnf; arg 2; whnf); try skip)); (exact trivial)); (intro c h; cases h); exact rfl)) | (apply og_indexAddr; (apply op_lk; (apply lk_idxB (tI := 3) tab; exact rfl; (focus ((conv => lhs; whnf); try exact rfl)); (focus ((conv => lhs; whnf); try exact rfl)); exact rfl; (omega)); (intro c h; cases h); exact rfl)) | (apply ops_nil))) | (apply og_sat; (first | (apply sat_seq) | (apply sat_region) | (apply sat_cond_t; exact rfl; (exact rfl)) | (apply sat_skip) | (apply sat_block))) | (apply pe_norm))
  refine ops_env [(71, .ptr (σ.length + 0) 8), (72, .ptr (σ.length + 2) 0), (67, .int .i64 0), (66, .int .i64 3), (65, .bsl (σ.length + 4) 0 1 3 3), (4, .ptr (σ.length + 2) 0), (3, .ptr (σ.length + 1) 0), (2, .ptr (σ.length + 0) 0)] ?_ (ops_sto (σ' := σ ++ [.cells [.int .i64 v1, .int .i64 v2, .int .i64 v3, .str nm, .int .i64 v5, .int .i64 v6, .int .i64 v7, .int .u32 v8, .int .i64 0, .int .i64 0, .int .i64 0, .sl .ow 2 []], .cells [.int .i64 0], .cells [.str r8], .cells [.ptr (σ.length + 0) 4, .ptr (σ.length + 0) 5, .ptr (σ.length + 0) 6], .cells [.ptr (σ.length + 0) 8, .ptr (σ.length + 0) 9, .ptr (σ.length + 0) 10]]) rfl ?_)
  · (repeat' (first | exact trivial | exact Wk.same _ | refine ⟨?_, ?_⟩))
  refine op_num (s := r8) 2 1048576 rfl (by omega) rfl rfl rfl rfl rfl (fun hz => ?_) (fun v9 r9 e9 b9 l9 => ?_)
  · rw [hz] at hsp
    repeat (first | apply pe_panic | apply pb_panic)
    exact take_pan hsp hso rfl rfl rfl rfl
  rw [e9] at hsp
  dsimp only [Option.bind_some] at hsp
  repeat' (first | (apply og_ops; (first | (apply og_move; (apply op_move (tt := tt); (focus ((conv => lhs; whnf); try exact rfl)); exact rfl)) | (apply og_assign; (apply op_assign (tt := tt); (focus ((conv => lhs; whnf); try exact rfl)); exact rfl)) | (apply og_bin; (apply op_bin true tab; (focus ((conv => lhs; whnf; arg 1; whnf; arg 2; whnf); try exact rfl)); (first | exact trivial | (simp only [InR]; omega)); exact rfl)) | (apply og_load; (apply op_lk; (apply lk_loadX tab; exact rfl; exact rfl; exact rfl; (focus ((conv => lhs; whnf; arg 1; whnf; arg 2; whnf); try skip)); (exact trivial)); (intro c h; cases h); exact rfl)) | (apply og_indexAddr; (apply op_lk; (apply lk_idxB (tI := 3) tab; exact rfl; (focus ((conv => lhs; whnf); try exact rfl)); (focus ((conv => lhs; whnf); try exact rfl)); exact rfl; (omega)); (intro c h; cases h); exact rfl)) | (apply og_store; (apply op_storeNX tab; exact rfl; exact rfl; exact rfl; (focus ((conv => lhs; whnf); try exact rfl)); exact rfl; exact rfl; exact rfl; exact rfl)) | (apply og_nilCheck; (apply op_lk; (apply lk_nilCheck (tt := tt); (focus ((conv => lhs; whnf); try exact rfl))); (intro c h; cases h); exact rfl)) | (apply ops_nil))) | (apply og_sat; (first | (apply sat_seq) | (apply sat_region) | (apply sat_cond_t; exact rfl; (exact rfl)) | (apply sat_skip) | (apply sat_block))) | (apply pe_norm) | (apply pb_norm))
  refine ops_env [(71, .ptr (σ.length + 0) 9), (72, .ptr (σ.length + 2) 0), (67, .int .i64 1), (66, .int .i64 3), (65, .bsl (σ.length + 4) 0 1 3 3), (4, .ptr (σ.length + 2) 0), (3, .ptr (σ.length + 1) 0), (2, .ptr (σ.length + 0) 0)] ?_ (ops_sto (σ' := σ ++ [.cells [.int .i64 v1, .int .i64 v2, .int .i64 v3, .str nm, .int .i64 v5, .int .i64 v6, .int .i64 v7, .int .u32 v8, .int .i64 v9, .int .i64 0, .int .i64 0, .sl .ow 2 []], .cells [.int .i64 0], .cells [.str r9], .cells [.ptr (σ.length + 0) 4, .ptr (σ.length + 0) 5, .ptr (σ.length + 0) 6], .cells [.ptr (σ.length + 0) 8, .ptr (σ.length + 0) 9, .ptr (σ.length + 0) 10]]) rfl ?_)
  · (repeat' (first | exact trivial | exact Wk.same _ | refine ⟨?_, ?_⟩))
  refine op_num (s := r9) 2 1048576 rfl (by omega) rfl rfl rfl rfl rfl (fun hz => ?_) (fun v10 r10 e10 b10 l10 => ?_)
  · rw [hz] at hsp
    repeat (first | apply pe_panic | apply pb_panic)
    exact take_pan hsp hso rfl rfl rfl rfl
  rw [e10] at hsp
  dsimp only [Option.bind_some] at hsp
  repeat' (first | (apply og_ops; (first | (apply og_move; (apply op_move (tt := tt); (focus ((conv => lhs; whnf); try exact rfl)); exact rfl)) | (apply og_assign; (apply op_assign (tt := tt); (focus ((conv => lhs; whnf); try exact rfl)); exact rfl)) | (apply og_bin; (apply op_bin true tab; (focus ((conv => lhs; whnf; arg 1; whnf; arg 2; whnf); try exact rfl)); (first | exact trivial | (simp only [InR]; omega)); exact rfl)) | (apply og_load; (apply op_lk; (apply lk_loadX tab; exact rfl; exact rfl; exact rfl; (focus ((conv => lhs; whnf; arg 1; whnf; arg 2; whnf); try skip)); (exact trivial)); (intro c h; cases h); exact rfl)) | (apply og_indexAddr; (apply op_lk; (apply lk_idxB (tI := 3) tab; exact rfl; (focus ((conv => lhs; whnf); try exact rfl)); (focus ((conv => lhs; whnf); try exact rfl)); exact rfl; (omega)); (intro c h; cases h); exact rfl)) | (apply og_store; (apply op_storeNX tab; exact rfl; exact rfl; exact rfl; (focus ((conv => lhs; whnf); try exact rfl)); exact rfl; exact rfl; exact rfl; exact rfl)) | (apply og_nilCheck; (apply op_lk; (apply lk_nilCheck (tt := tt); (focus ((conv => lhs; whnf); try exact rfl))); (intro c h; cases h); exact rfl)) | (apply ops_nil))) | (apply og_sat; (first | (apply sat_seq) | (apply sat_region) | (apply sat_cond_t; exact rfl; (exact rfl)) | (apply sat_skip) | (apply sat_block))) | (apply pe_norm) | (apply pb_norm))
  refine ops_env [(71, .ptr (σ.length + 0) 10), (72, .ptr (σ.length + 2) 0), (67, .int .i64 2), (66, .int .i64 3), (65, .bsl (σ.length + 4) 0 1 3 3), (4, .ptr (σ.length + 2) 0), (3, .ptr (σ.length + 1) 0), (2, .ptr (σ.length + 0) 0)] ?_ (ops_sto (σ' := σ ++ [.cells [.int .i64 v1, .int .i64 v2, .int .i64 v3, .str nm, .int .i64 v5, .int .i64 v6, .int .i64 v7, .int .u32 v8, .int .i64 v9, .int .i64 v10, .int .i64 0, .sl .ow 2 []], .cells [.int .i64 0], .cells [.str r10], .cells [.ptr (σ.length + 0) 4, .ptr (σ.length + 0) 5, .ptr (σ.length + 0) 6], .cells [.ptr (σ.length + 0) 8, .ptr (σ.length + 0) 9, .ptr (σ.length + 0) 10]]) rfl ?_)
  · (repeat' (first | exact trivial | exact Wk.same _ | refine ⟨?_, ?_⟩))
  refine op_num (s := r10) 2 1048576 rfl (by omega) rfl rfl rfl rfl rfl (fun hz => ?_) (fun v11 r11 e11 b11 l11 => ?_)
  · rw [hz] at hsp
    repeat (first | apply pe_panic | apply pb_panic)
    exact take_pan hsp hso rfl rfl rfl rfl
  rw [e11] at hsp
  dsimp only [Option.bind_some] at hsp
  repeat' (first | (apply og_ops; (first | (apply og_move; (apply op_move (tt := tt); (focus ((conv => lhs; whnf); try exact rfl)); exact rfl)) | (apply og_bin; (apply op_bin true tab; (focus ((conv => lhs; whnf; arg 1; whnf; arg 2; whnf); try exact rfl)); (first | exact trivial | (simp only [InR]; omega)); exact rfl)) | (apply og_store; (apply op_storeNX tab; exact rfl; exact rfl; exact rfl; (focus ((conv => lhs; whnf); try exact rfl)); exact rfl; exact rfl; exact rfl; exact rfl)) | (apply og_nilCheck; (apply op_lk; (apply lk_nilCheck (tt := tt); (focus ((conv => lhs; whnf); try exact rfl))); (intro c h; cases h); exact rfl)) | (apply ops_nil))) | (apply og_sat; (first | (apply sat_seq) | (apply sat_region) | (apply sat_cond_f; exact rfl; (exact rfl)) | (apply sat_exit))) | (apply pe_norm) | (apply pb_norm) | (apply pe_exit) | (apply pb_same))
  refine ops_env [(76, .ptr (σ.length + 2) 0), (4, .ptr (σ.length + 2) 0), (3, .ptr (σ.length + 1) 0), (2, .ptr (σ.length + 0) 0)] ?_ (ops_sto (σ' := σ ++ [.cells [.int .i64 v1, .int .i64 v2, .int .i64 v3, .str nm, .int .i64 v5, .int .i64 v6, .int .i64 v7, .int .u32 v8, .int .i64 v9, .int .i64 v10, .int .i64 v11, .sl .ow 2 []], .cells [.int .i64 0], .cells [.str r11], .cells [.ptr (σ.length + 0) 4, .ptr (σ.length + 0) 5, .ptr (σ.length + 0) 6], .cells [.ptr (σ.length + 0) 8, .ptr (σ.length + 0) 9, .ptr (σ.length + 0) 10]]) rfl ?_)
  · (repeat' (first | exact trivial | exact Wk.same _ | refine ⟨?_, ?_⟩))
  refine op_num (s := r11) 2 14 rfl (by omega) rfl rfl rfl rfl rfl (fun hz => ?_) (fun v12 r12 e12 b12 l12 => ?_)
  · rw [hz] at hsp
    repeat (first | apply pe_panic | apply pb_panic)
    exact take_pan hsp hso rfl rfl rfl rfl
  rw [e12] at hsp
  dsimp only [Option.bind_some] at hsp
  repeat' (first | (apply og_ops; (first | (apply og_move; (apply op_move (tt := tt); (focus ((conv => lhs; whnf); try exact rfl)); exact rfl)) | (apply ops_nil))) | (apply og_sat; (apply sat_block)) | (apply pe_norm))
  clear tT hT hT'
  refine sat_loopD (fun x : Nat × ByteArray × List (Int × Int) => [(77, .int .i64 v12), (78, .int .i64 x.1), (4, .ptr (σ.length + 2) 0), (3, .ptr (σ.length + 1) 0), (2, .ptr (σ.length + 0) 0)]) (fun x => σ ++ [.cells [.int .i64 v1, .int .i64 v2, .int .i64 v3, .str nm, .int .i64 v5, .int .i64 v6, .int .i64 v7, .int .u32 v8, .int .i64 v9, .int .i64 v10, .int .i64 v11, .sl .ow 2 (x.2.2.map plc)], .cells [.int .i64 0], .cells [.str x.2.1], .cells [.ptr (σ.length + 0) 4, .ptr (σ.length + 0) 5, .ptr (σ.length + 0) 6], .cells [.ptr (σ.length + 0) 8, .ptr (σ.length + 0) 9, .ptr (σ.length + 0) 10]])
    (fun x => x.1 ≤ v12 ∧ x.2.1.size ≤ s.size ∧ x.2.2.length = x.1 ∧ takeC s = (rdP (v12 - x.1) x.2.1 x.2.2).bind fun ps => fin15 ⟨v1, v2, v3, nm, v5, v6, v7, v8, v9, v10, v11, ps.1⟩ ps.2) (fun x => v12 - x.1) (0, r12, []) ⟨Nat.zero_le _, by show r12.size ≤ _; omega, rfl, hsp⟩ ?_ rfl ?_
  · (repeat' (first | exact trivial | exact Wk.same _ | refine ⟨?_, ?_⟩))
  clear hsp
  rintro ⟨i, r, acc⟩ ⟨hi, hrs, hal, hsp⟩
  dsimp only at hi hrs hal hsp ⊢
  by_cases hlt : i < v12
  · have d1 : decide ((i : Int) < (v12 : Int)) = true := decide_eq_true (by omega)
    rw [show v12 - i = (v12 - (i + 1)) + 1 by omega, rdP] at hsp
    repeat' (first | (apply og_ops; (first | (apply og_move; (apply op_move (tt := tt); (focus ((conv => lhs; whnf); try exact rfl)); exact rfl)) | (apply og_bin; (apply op_bin true tab; (focus ((conv => lhs; whnf; arg 1; whnf; arg 2; whnf); try exact rfl)); (exact trivial); exact rfl)) | (apply ops_nil))) | (apply og_sat; (first | (apply sat_seq) | (apply sat_region) | (apply sat_cond_t; exact rfl; (assumption)) | (apply sat_skip) | (apply sat_block))) | (apply pe_norm))
    refine op_num (s := r) 2 3 rfl (by omega) rfl rfl rfl rfl rfl (fun hz => ?_) (fun a ra e b l => ?_)
    · rw [hz] at hsp
      repeat (first | apply pe_panic | apply pb_panic)
      exact take_pan hsp hso rfl rfl rfl rfl
    rw [e] at hsp
    dsimp only [Option.bind_some] at hsp
    repeat' (first | (apply og_ops; (first | (apply og_move; (apply op_move (tt := tt); (focus ((conv => lhs; whnf); try exact rfl)); exact rfl)) | (apply og_store; (apply op_storeNX tab; exact rfl; exact rfl; exact rfl; (focus ((conv => lhs; whnf); try exact rfl)); exact rfl; exact rfl; exact rfl; exact rfl)) | (apply og_build; (apply op_lk; (apply lk_build tab.nils; exact rfl; (focus ((conv => lhs; whnf; arg 1; whnf; arg 2; whnf); try skip))); (intro c h; cases h); exact rfl)) | (apply og_alloc; (apply op_allocX tab; exact rfl; exact rfl; (exact (rfl : _ = 5)); exact rfl)) | (apply ops_nil))) | (apply og_sat; (first | (apply sat_seq) | (apply sat_region))) | (apply pe_norm))
    refine op_num (s := ra) 2 63 rfl (by omega) rfl rfl rfl rfl rfl (fun hz => ?_) (fun c rc e b l => ?_)
    · rw [hz] at hsp
      repeat (first | apply pe_panic | apply pb_panic)
      exact take_pan hsp hso rfl rfl rfl rfl
    rw [e] at hsp
    dsimp only [Option.bind_some] at hsp
    repeat' (first | (apply og_ops; (first | (apply og_move; (apply op_move (tt := tt); (focus ((conv => lhs; whnf); try exact rfl)); exact rfl)) | (apply og_bin; (apply op_bin true tab; (focus ((conv => lhs; whnf; arg 1; whnf; arg 2; whnf); try exact rfl)); (simp only [InR]; omega); exact rfl)) | (apply og_load; (first | (apply op_loadTX tab (d := 87); exact rfl; exact rfl; exact rfl; exact rfl; exact rfl; exact rfl; exact rfl) | (apply op_lk; (apply lk_loadX tab; exact rfl; exact rfl; exact rfl; (focus ((conv => lhs; whnf; arg 1; whnf; arg 2; whnf); try skip)); (exact Nat.le_of_ble_eq_true rfl)); (intro c h; cases h); exact rfl))) | (apply og_callb; (apply op_appendX tab; (focus ((conv => lhs; whnf); try exact rfl)); exact rfl; exact rfl; exact rfl; exact rfl; exact rfl; (focus ((conv => lhs; whnf); try exact rfl)); exact rfl; (simp only [List.length_map, List.length_append, List.length_cons, List.length_nil, List.length_take]; omega); (exact rfl); exact rfl)) | (apply og_fieldAddr; (apply op_lk; (apply lk_fieldAddrB tab; exact rfl; (focus ((conv => lhs; whnf); try exact rfl)); exact rfl; (first | exact (rfl : _ = 1) | exact (rfl : _ = 11))); (intro c h; cases h); exact rfl)) | (apply og_store; (first | (apply op_storeTX tab; exact rfl; exact rfl; exact rfl; exact rfl; (focus ((conv => lhs; whnf); try exact rfl)); exact rfl; exact rfl; (intro h; cases h)) | (apply op_storeX tab; exact rfl; exact rfl; exact rfl; exact rfl; exact rfl; exact rfl; exact rfl; exact rfl))) | (apply og_buildSlice; (apply op_buildSliceX .ow tab; exact rfl; (focus ((repeat (apply opvs_cons; (focus ((conv => lhs; whnf); try exact rfl)))); exact opvs_nil)); exact rfl; exact rfl; exact rfl; exact rfl; exact rfl; exact rfl)) | (apply ops_nil))) | (apply og_sat; (apply sat_region)) | (apply pe_norm) | (apply pb_norm))
    refine ⟨(i + 1, rc, acc ++ [((a : Int), (c : Int))]), ⟨by show i + 1 ≤ _; omega, by show rc.size ≤ _; omega, by simp [hal], hsp⟩, by show v12 - (i + 1) < _; omega, ?_, ?_⟩
    · (repeat' (first | exact trivial | exact Wk.same _ | refine ⟨?_, ?_⟩))
    · rw [List.map_append]
      exact loopD_end 5 rfl (by simp) (stoOK_app hso (by simp [Ent.lt, ltAll, PV.lt, PV.cells, plc])) (envL_lt (by simp [PV.lt, plc]))
  · have d1 : decide ((i : Int) < (v12 : Int)) = false := decide_eq_false (by omega)
    rw [show v12 - i = 0 by omega, rdP] at hsp
    dsimp only [Option.bind_some] at hsp
    have hm := mayI_sat ⟨v1, v2, v3, nm, v5, v6, v7, v8, v9, v10, v11, acc⟩ (by show acc.length ≤ _; omega) (by show nm.size ≤ _; omega)
    unfold fin15 at hsp
    by_cases g1 : r = ⟨#[]⟩
    · have f1 : beqS r ⟨#[]⟩ = true := beqS_iff.2 g1
      have f1' : (!beqS r ⟨#[]⟩) = false := by rw [f1]; rfl
      by_cases g2 : mayC ⟨v1, v2, v3, nm, v5, v6, v7, v8, v9, v10, v11, acc⟩ = true
      · rw [g2] at hm
        rw [if_pos ⟨g1, g2⟩] at hsp
        repeat' (first | (apply og_ops; (first | (apply og_guard; (apply ops_guard_t; exact (rfl : _ = some _); exact (rfl : _ = PV.bool _); (assumption))) | (apply og_move; (apply op_move (tt := tt); (focus ((conv => lhs; whnf); try exact rfl)); exact rfl)) | (apply og_callv; (refine op_callP (tt := tt) cal33 (hm _) rfl rfl rfl rfl rfl ?_)) | (apply og_bin; (apply op_bin true tab; (focus ((conv => lhs; whnf; arg 1; whnf; arg 2; whnf); try exact rfl)); (exact trivial); exact rfl)) | (apply og_pick; (apply op_pick (tt := tt); exact (rfl : _ = PV.bool _); (refine .inr ⟨by assumption, ?_⟩); (focus ((conv => lhs; whnf); try exact rfl)); exact ltn rfl)) | (apply og_load; (apply op_lk; (apply lk_loadX tab; exact rfl; exact rfl; exact rfl; (focus ((conv => lhs; whnf; arg 1; whnf; arg 2; whnf); try skip)); (first | exact trivial | exact Nat.le_of_ble_eq_true rfl)); (intro c h; cases h); exact rfl)) | (apply og_fieldAddr; (apply op_lk; (apply lk_fieldAddrB tab; exact rfl; (focus ((conv => lhs; whnf); try exact rfl)); exact rfl; (exact (rfl : _ = 0))); (intro c h; cases h); exact rfl)) | (apply og_un; (apply op_un (tt := tt) true; (focus ((conv => lhs; whnf; arg 1; whnf; arg 2; whnf); try exact rfl)); (exact trivial); exact rfl)) | (apply og_store; (apply op_storeNX tab; exact rfl; exact rfl; exact rfl; (focus ((conv => lhs; whnf); try exact rfl)); exact rfl; exact rfl; exact rfl; exact rfl)) | (apply og_nilCheck; (apply op_lk; (apply lk_nilCheck (tt := tt); (focus ((conv => lhs; whnf); try exact rfl))); (intro c h; cases h); exact rfl)) | (apply ops_nil))) | (apply og_sat; (first | (apply sat_seq) | (apply sat_region) | (apply sat_cond_f; exact rfl; (first | exact rfl | assumption)) | (apply sat_skip) | (apply sat_ret) | (apply sat_exit))) | (apply pe_norm) | (apply pe_exit) | (apply pb_same))
        exact take_ret (p := cm ⟨v1, v2, v3, nm, v5, v6, v7, v8, v9, v10, v11, acc⟩) (e := 0) hso ⟨_, rfl, by first | trivial | exact Nat.le_of_ble_eq_true rfl⟩ ⟨rfl, by simp [cm, ltAll, PV.lt]⟩ rfl rfl rfl (by rw [hsp]; rfl)
      · rw [show mayC ⟨v1, v2, v3, nm, v5, v6, v7, v8, v9, v10, v11, acc⟩ = false by simpa using g2] at hm
        rw [if_neg (fun h => g2 h.2)] at hsp
        repeat' (first | (apply og_ops; (first | (apply og_guard; (apply ops_guard_t; exact (rfl : _ = some _); exact (rfl : _ = PV.bool _); (assumption))) | (apply og_move; (apply op_move (tt := tt); (focus ((conv => lhs; whnf); try exact rfl)); exact rfl)) | (apply og_callv; (refine op_callP (tt := tt) cal33 (hm _) rfl rfl rfl rfl rfl ?_)) | (apply og_bin; (apply op_bin true tab; (focus ((conv => lhs; whnf; arg 1; whnf; arg 2; whnf); try exact rfl)); (exact trivial); exact rfl)) | (apply og_pick; (apply op_pick (tt := tt); exact (rfl : _ = PV.bool _); (refine .inr ⟨by assumption, ?_⟩); (focus ((conv => lhs; whnf); try exact rfl)); exact ltn rfl)) | (apply og_load; (apply op_lk; (apply lk_loadX tab; exact rfl; exact rfl; exact rfl; (focus ((conv => lhs; whnf; arg 1; whnf; arg 2; whnf); try skip)); (first | exact trivial | exact Nat.le_of_ble_eq_true rfl)); (intro c h; cases h); exact rfl)) | (apply og_fieldAddr; (apply op_lk; (apply lk_fieldAddrB tab; exact rfl; (focus ((conv => lhs; whnf); try exact rfl)); exact rfl; (exact (rfl : _ = 0))); (intro c h; cases h); exact rfl)) | (apply og_un; (apply op_un (tt := tt) true; (focus ((conv => lhs; whnf; arg 1; whnf; arg 2; whnf); try exact rfl)); (exact trivial); exact rfl)) | (apply og_store; (apply op_storeNX tab; exact rfl; exact rfl; exact rfl; (focus ((conv => lhs; whnf); try exact rfl)); exact rfl; exact rfl; exact rfl; exact rfl)) | (apply og_build; (apply op_lk; (apply lk_build tab.nils; exact rfl; (focus ((conv => lhs; whnf; arg 1; whnf; arg 2; whnf); try skip))); (intro c h; cases h); exact rfl)) | (apply og_nilCheck; (apply op_lk; (apply lk_nilCheck (tt := tt); (focus ((conv => lhs; whnf); try exact rfl))); (intro c h; cases h); exact rfl)) | (apply ops_nil))) | (apply og_sat; (first | (apply sat_seq) | (apply sat_region) | (apply sat_cond_t; exact rfl; (exact rfl)) | (apply sat_cond_f; exact rfl; (assumption)) | (apply sat_ret) | (apply sat_exit))) | (apply pe_norm) | (apply pe_ret) | (apply pe_exit) | (apply pb_same))
        exact take_ret (p := cm ⟨0, 0, 0, ⟨#[]⟩, 0, 0, 0, 0, 0, 0, 0, []⟩) (e := 3) hso ⟨_, rfl, by first | trivial | exact Nat.le_of_ble_eq_true rfl⟩ ⟨rfl, by simp [cm, ltAll, PV.lt]⟩ rfl rfl rfl (by rw [hsp]; rfl)
    · have f1 : beqS r ⟨#[]⟩ = false := by cases hb : beqS r ⟨#[]⟩ with
        | false => rfl
        | true => exact absurd (beqS_iff.1 hb) g1
      have f1' : (!beqS r ⟨#[]⟩) = true := by rw [f1]; rfl
      rw [if_neg (fun h => g1 h.1)] at hsp
      repeat' (first | (apply og_ops; (first | (apply og_guard; (apply ops_guard_f'; exact (rfl : _ = some _); exact (rfl : _ = PV.bool _); (assumption); exact ltn rfl)) | (apply og_move; (apply op_move (tt := tt); (focus ((conv => lhs; whnf); try exact rfl)); exact rfl)) | (apply og_bin; (apply op_bin true tab; (focus ((conv => lhs; whnf; arg 1; whnf; arg 2; whnf); try exact rfl)); (exact trivial); exact rfl)) | (apply og_pick; (apply op_pick (tt := tt); exact (rfl : _ = PV.bool _); (refine .inl ⟨by assumption, ?_⟩); (focus ((conv => lhs; whnf); try exact rfl)); exact ltn rfl)) | (apply og_load; (apply op_lk; (apply lk_loadX tab; exact rfl; exact rfl; exact rfl; (focus ((conv => lhs; whnf; arg 1; whnf; arg 2; whnf); try skip)); (exact trivial)); (intro c h; cases h); exact rfl)) | (apply og_fieldAddr; (apply op_lk; (apply lk_fieldAddrB tab; exact rfl; (focus ((conv => lhs; whnf); try exact rfl)); exact rfl; (exact (rfl : _ = 0))); (intro c h; cases h); exact rfl)) | (apply og_store; (apply op_storeNX tab; exact rfl; exact rfl; exact rfl; (focus ((conv => lhs; whnf); try exact rfl)); exact rfl; exact rfl; exact rfl; exact rfl)) | (apply og_build; (apply op_lk; (apply lk_build tab.nils; exact rfl; (focus ((conv => lhs; whnf; arg 1; whnf; arg 2; whnf); try skip))); (intro c h; cases h); exact rfl)) | (apply og_nilCheck; (apply op_lk; (apply lk_nilCheck (tt := tt); (focus ((conv => lhs; whnf); try exact rfl))); (intro c h; cases h); exact rfl)) | (apply ops_nil))) | (apply og_sat; (first | (apply sat_seq) | (apply sat_region) | (apply sat_cond_t; exact rfl; (exact rfl)) | (apply sat_cond_f; exact rfl; (assumption)) | (apply sat_ret) | (apply sat_exit))) | (apply pe_norm) | (apply pe_ret) | (apply pe_exit) | (apply pb_same))
      exact take_ret (p := cm ⟨0, 0, 0, ⟨#[]⟩, 0, 0, 0, 0, 0, 0, 0, []⟩) (e := 3) hso ⟨_, rfl, by first | trivial | exact Nat.le_of_ble_eq_true rfl⟩ ⟨rfl, by simp [cm, ltAll, PV.lt]⟩ rfl rfl rfl (by rw [hsp]; rfl)

end Go.Proofs.Ytbjmafbbjhoddaa.Pv
