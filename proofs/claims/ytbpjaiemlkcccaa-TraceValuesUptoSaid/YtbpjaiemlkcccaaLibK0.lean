import Derived.Test.YtbpjaiemlkcccaaTy
import Derived.Test.YtbpjaiemlkcccaaEq
import Derived.Test.YtbpjaiemlkcccaaPvM3
set_option linter.unusedVariables false
set_option linter.unusedSimpArgs false
section
/- Package site: the third region; places compared, and searched. -/
namespace Go.Proofs.Ytbpjaiemlkcccaa.Pv
open Go
set_option maxRecDepth 100000
theorem apy (r : Int) (σ : Sto) : jo Try.prog 97 [.int .i64 r] σ fun x σ' => x = .bool (decide (1 ≤ r ∧ r ≤ 3)) ∧ σ' = σ := by
  refine ny tab Try.func97 rfl (nlb rfl) (by decide) fun hso => ?_
  repeat' (first | (apply bn; (first | (apply jq; (first | (apply jc; exact (rfl : _ = some _); exact (rfl : _ = PV.bool _); (assumption)) | (apply ky; exact (rfl : _ = some _); exact (rfl : _ = PV.bool _); (assumption); exact ltn rfl) | (apply qm; exact (rfl : _ = some _); exact (rfl : _ = PV.bool _); all_goals intro hb))) | (apply bv; (apply bu (tt := tt); (focus (conv => lhs; whnf); try exact rfl); exact rfl)) | (apply ai; (apply az (tt := tt); (focus (conv => lhs; whnf); try exact rfl); exact rfl)) | (apply dw; (apply di true tab; (focus (conv => lhs; whnf; arg 1; whnf; arg 2; whnf); try exact rfl); (exact trivial); exact rfl)) | (apply kr; (apply ku (tt := tt); exact (rfl : _ = PV.bool _); (first | refine .inl ⟨by assumption, ?_⟩ | refine .inr ⟨by assumption, ?_⟩); (focus (conv => lhs; whnf); try exact rfl); exact ltn rfl)) | (apply ak))) | (apply bq; (first | (apply bg) | (apply ah) | (apply dn))) | (apply bf))
  all_goals (change gu _ _ _ _ _ _ _; apply aaq; (exact .inr rfl); exact rfl; (focus (conv => lhs; whnf); try exact rfl); exact Wk.same _; exact rfl; exact (List.append_nil _).symm; exact Nat.le_refl _; exact trivial; exact hso)
  all_goals exact ⟨by first | (simp_all; done) | (simp_all; omega), rfl⟩
def uu (a b : Int) : Int × Int := if (1 ≤ a ∧ a ≤ 3) ∧ (1 ≤ b ∧ b ≤ 3) ∧ a ≠ b then (6 - a - b, 0) else (0, 1)
theorem aky (a b : Int) (σ : Sto) : jo Try.prog 83 [.int .i64 a, .int .i64 b] σ fun x σ' => x = .tup [.int .i64 (uu a b).1, .int .i64 (uu a b).2] ∧ σ' = σ := by
  refine ny tab Try.func83 rfl (nlb rfl) (by decide) fun hso => ?_
  repeat' (first | (apply bn; (first | (apply jq; (first | (apply jc; exact (rfl : _ = some _); exact (rfl : _ = PV.bool _); (assumption)) | (apply ky; exact (rfl : _ = some _); exact (rfl : _ = PV.bool _); (first | exact rfl | assumption); exact ltn rfl) | (apply qm; exact (rfl : _ = some _); exact (rfl : _ = PV.bool _); all_goals intro hb))) | (apply bv; (apply bu (tt := tt); (focus (conv => lhs; whnf); try exact rfl); exact rfl)) | (apply ai; (apply az (tt := tt); (focus (conv => lhs; whnf); try exact rfl); exact rfl)) | (apply ji; (refine cz (tt := tt) azk (apy _ _) rfl rfl rfl rfl rfl ?_)) | (apply dw; (apply di true tab; (focus (conv => lhs; whnf; arg 1; whnf; arg 2; whnf); try exact rfl); (first | exact trivial | (simp [InR] at *; omega)); exact rfl)) | (apply kr; (apply ku (tt := tt); exact (rfl : _ = PV.bool _); (first | refine .inl ⟨rfl, ?_⟩ | refine .inl ⟨by assumption, ?_⟩ | refine .inr ⟨by assumption, ?_⟩); (focus (conv => lhs; whnf); try exact rfl); exact ltn rfl)) | (apply qy; (apply pu (tt := tt) true; (focus (conv => lhs; whnf; arg 1; whnf; arg 2; whnf); try exact rfl); (exact trivial); exact rfl)) | (apply ak))) | (apply bq; (first | (apply bg) | (apply ah) | (apply df; exact rfl; (exact rfl)) | (apply qo; exact (rfl : _ = PV.bool _); all_goals intro hb) | (apply gz) | (apply dn))) | (apply bf) | (apply lq))
  all_goals (change gu _ _ _ _ _ _ _; apply avn; (exact .inr rfl); exact rfl; (focus (conv => lhs; whnf); try exact rfl); (focus (conv => lhs; whnf); try exact rfl); exact Wk.same _; exact Wk.same _; exact rfl; exact rfl; exact (List.append_nil _).symm; exact Nat.le_refl _; exact trivial; exact trivial; exact hso)
  all_goals refine ⟨?_, rfl⟩
  all_goals simp only [decide_eq_true_eq, decide_eq_false_iff_not, Bool.not_eq_true', Bool.not_eq_false', beq_iff_eq, beq_eq_false_iff_ne, ne_eq] at *
  · rw [uu, if_neg (fun h => by omega)]
  · rw [uu, if_neg (fun h => by omega)]
  · rw [uu, if_neg (fun h => by omega)]
  · rw [uu, if_pos (by omega)]
def plc (p : Int × Int) : PV := .agg [.int .i64 p.1, .int .i64 p.2]
theorem aiz (xs : List (Int × Int)) (y : Int × Int) (hl : xs.length ≤ 9223372036854775807) (σ : Sto) : jo Try.prog 106 [.sl .sh 2 (xs.map plc), plc y] σ fun x σ' => x = .int .i64 (qc (fun x => decide (x = y)) xs) ∧ σ' = σ := by
  refine ny tab Try.func106 rfl (nlb rfl) (by decide) fun hso => oh ?_
  repeat' (first | (apply bn; (first | (apply bv; (apply bu (tt := tt); (focus (conv => lhs; whnf); try exact rfl); exact rfl)) | (apply ai; (apply az (tt := tt); (focus (conv => lhs; whnf); try exact rfl); exact rfl)) | (apply jr; (apply ni tab; (focus (conv => lhs; whnf; arg 1; whnf; arg 2; whnf); try exact rfl); (exact trivial); exact rfl)) | (apply lu; (apply kg (tt := tt); (focus (conv => lhs; whnf); try exact rfl); exact rfl; (exact (rfl : _ = 0)); exact rfl)) | (apply ak))) | (apply bq; (first | (apply bg) | (apply ah) | (apply ed))) | (apply bf))
  refine ve (fun i : Nat => [(0, .sl .sh 2 (xs.map plc)), (3, .ptr (σ.length + 0) 0), (7, .int .i64 xs.length), (8, .int .i64 i)]) (fun _ => _) (fun i => i ≤ xs.length ∧ ∀ j, j < i → decide (xs.getD j default = y) = false) (fun i => xs.length - i) 0 ⟨Nat.zero_le _, fun j hj => by omega⟩ ?_ rfl ?_
  · (repeat' (first | exact trivial | exact Wk.same _ | (refine Wk.eq ?_; (conv => rhs; whnf); simp <;> fail) | refine ⟨?_, ?_⟩))
  rintro i ⟨hi, hno⟩
  rcases Nat.lt_or_ge i xs.length with hlt | hge
  · have c1 : decide ((i : Int) < (xs.length : Int)) = true := by simp; omega
    repeat' (first | (apply bn; (first | (apply bv; (apply bu (tt := tt); (focus (conv => lhs; whnf); try exact rfl); exact rfl)) | (apply ai; (apply az (tt := tt); (focus (conv => lhs; whnf); try exact rfl); exact rfl)) | (apply dw; (first | (apply di true tab; (focus (conv => lhs; whnf; arg 1; whnf; arg 2; whnf); try exact rfl); (first | exact trivial | (simp only [InR]; omega)); exact rfl) | (apply aa; (apply ll tab jk; exact rfl; exact rfl; (focus (conv => lhs; whnf); try exact rfl); (focus (conv => lhs; whnf); try exact rfl); exact rfl; exact rfl); (intro c h; cases h); exact rfl))) | (apply ak))) | (apply bq; (first | (apply bg) | (apply ah) | (apply df; exact rfl; (assumption)) | (apply qo; exact (rfl : _ = PV.bool _); all_goals intro hb) | (apply gz) | (apply dn) | (apply ed) | (apply ko (k := 5); exact mixed; decide +kernel; decide +kernel))) | (apply bf) | (apply lq) | (apply ng) | (apply om) | (apply p9; (first | (apply p8; (first | (apply au; exact fw (tI := 3) _ tab rfl (by (focus (conv => lhs; whnf); try exact rfl)) (by (focus (conv => lhs; whnf); try exact rfl)) rfl (by (omega)) (by (omega)) (by (focus (conv => lhs; whnf); try exact rfl))) | (apply jg; (apply jf (tt := tt); (focus (conv => lhs; whnf); try exact rfl))) | (apply gm; (first | (apply aj tab; exact rfl; exact rfl; exact rfl; (focus (conv => lhs; whnf; arg 1; whnf; arg 2; whnf); try skip); (exact nlb rfl)) | (apply j6 tab; (focus (conv => lhs; whnf; arg 1; whnf; arg 2; whnf); try skip); (exact nlb rfl))))); exact rfl; exact rfl) | (apply oz))))
    · (change gu _ _ _ _ _ _ _; apply aaq; (exact .inr rfl); exact rfl; (focus (conv => lhs; whnf); try exact rfl); exact Wk.same _; exact rfl; exact rfl; exact Nat.le_refl _; exact trivial; exact hso)
      refine ⟨?_, rfl⟩
      rw [aay hlt hno (by have h := hb; simp only [Int.toNat_natCast] at h; rw [decide_eq_true_eq]; refine Prod.ext ?_ ?_ <;> (simp at h ⊢; omega))]
    · refine ⟨i + 1, ⟨by omega, fun j hj => ?_⟩, by omega, ?_, rfl⟩
      · by_cases e : j = i
        · subst e
          rw [decide_eq_false_iff_not]
          intro e
          rw [← e] at hb
          simp at hb
        · exact hno j (by omega)
      · (repeat' (first | exact trivial | exact Wk.same _ | refine ⟨?_, ?_⟩))
  · have c1 : decide ((i : Int) < (xs.length : Int)) = false := by simp; omega
    repeat' (first | (apply bn; (first | (apply ai; (apply az (tt := tt); (focus (conv => lhs; whnf); try exact rfl); exact rfl)) | (apply dw; (apply di true tab; (focus (conv => lhs; whnf; arg 1; whnf; arg 2; whnf); try exact rfl); (exact trivial); exact rfl)) | (apply ak))) | (apply bq; (first | (apply bg) | (apply ah) | (apply dm; exact rfl; (assumption)) | (apply dn) | (apply oo))) | (apply bf) | (apply o9) | (apply pg))
    (change gu _ _ _ _ _ _ _; apply aaq; (exact .inr rfl); exact rfl; (focus (conv => lhs; whnf); try exact rfl); exact Wk.same _; exact rfl; exact rfl; exact Nat.le_refl _; exact trivial; exact hso)
    exact ⟨by rw [acs fun j hj => hno j (by omega)], rfl⟩
theorem ac0 (xs : List (Int × Int)) (y : Int × Int) (hl : xs.length ≤ 9223372036854775807) (σ : Sto) : jo Try.prog 95 [.sl .sh 2 (xs.map plc), plc y] σ fun x σ' => x = .bool (decide (y ∈ xs)) ∧ σ' = σ := by
  refine ny tab Try.func95 rfl (nlb rfl) (by decide) fun hso => oh ?_
  have := aiz xs y hl
  repeat' (first | (apply bn; (first | (apply bv; (apply bu (tt := tt); (focus (conv => lhs; whnf); try exact rfl); exact rfl)) | (apply ai; (apply az (tt := tt); (focus (conv => lhs; whnf); try exact rfl); exact rfl)) | (apply ji; (refine cz (tt := tt) awe (aiz _ _ ?_ _) rfl rfl rfl rfl rfl ?_; (assumption))) | (apply dw; (apply di true tab; (focus (conv => lhs; whnf; arg 1; whnf; arg 2; whnf); try exact rfl); (exact trivial); exact rfl)) | (apply fq; (apply aa; (apply aj tab; exact rfl; exact rfl; exact rfl; (focus (conv => lhs; whnf; arg 1; whnf; arg 2; whnf); try skip); (exact nlb rfl)); (intro c h; cases h); exact rfl)) | (apply lu; (apply kg (tt := tt); (focus (conv => lhs; whnf); try exact rfl); exact rfl; (exact (rfl : _ = 0)); exact rfl)) | (apply ak))) | (apply bq; (first | (apply bg) | (apply ah) | (apply dn))) | (apply bf))
  (change gu _ _ _ _ _ _ _; apply aaq; (exact .inr rfl); exact rfl; (focus (conv => lhs; whnf); try exact rfl); exact Wk.same _; exact rfl; exact rfl; exact Nat.le_refl _; exact trivial; exact hso)
  refine ⟨?_, rfl⟩
  rw [av2]
  congr 1
  rw [Bool.eq_iff_iff]; simp
end Go.Proofs.Ytbpjaiemlkcccaa.Pv
end
section
/- Indexes: volumes, names, sessions; a volume by its number. -/
namespace Go.Proofs.Ytbpjaiemlkcccaa.Pv
open Go
set_option maxRecDepth 100000
structure Vl where
  id : Int
  home : Int
  mate : Int
  used : Int
  phase : Int
  parts : List (Int × Int)
  places : List (Int × Int)
  pair : Int
  sum : Int
  deriving Inhabited, DecidableEq
def vl (v : Vl) : PV :=
  .agg [.int .i64 v.id, .int .i64 v.home, .int .i64 v.mate, .int .i64 v.used, .int .i64 v.phase, .sl .sh 2 (v.parts.map plc), .sl .sh 2 (v.places.map plc), .int .i64 v.pair, .int .i64 v.sum]
structure Nm where
  name : ByteArray
  vol : Int
  off : Int
  n : Int
  sum : Int
  deriving Inhabited, DecidableEq
def nm (x : Nm) : PV :=
  .agg [.str x.name, .int .i64 x.vol, .int .i64 x.off, .int .i64 x.n, .int .u32 x.sum]
structure Ss where
  client : Int
  seq : Int
  err : Int
  vol : Int
  off : Int
  n : Int
  sum : Int
  found : Bool
  deriving Inhabited, DecidableEq
def ss (x : Ss) : PV :=
  .agg [.int .i64 x.client, .int .i64 x.seq, .int .i64 x.err, .int .i64 x.vol, .int .i64 x.off, .int .i64 x.n, .int .u32 x.sum, .bool x.found]
structure Ix where
  vols : List Vl
  names : List Nm
  last : List Ss
  deriving Inhabited, DecidableEq
def ix (x : Ix) : PV :=
  .agg [.sl .sh 9 (x.vols.map vl), .sl .sh 5 (x.names.map nm), .sl .sh 8 (x.last.map ss)]
theorem ajr {g : FuncId} {caps : List PV} (p : Vl → Bool) (xs : List (Vl)) (hl : xs.length ≤ 9223372036854775807) (σ : Sto) (hg : jd Try.prog g) (hf : ∀ x ∈ xs, jo Try.prog g (vl x :: caps) σ fun r σ' => r = .bool (p x) ∧ σ' = σ) (htup : (caps.all fun p => !p.isTup) = true) :
    jo Try.prog 108 [.sl .sh 9 (xs.map vl), .fn (.func g) [] caps] σ fun x σ' => x = .int .i64 (qc p xs) ∧ σ' = σ := by
  refine ny tab Try.func108 rfl (nlb rfl) (by decide) fun hso => ?_
  repeat' (first | (apply bn; (first | (apply bv; (apply bu (tt := tt); (focus (conv => lhs; whnf); try exact rfl); exact rfl)) | (apply ai; (apply az (tt := tt); (focus (conv => lhs; whnf); try exact rfl); exact rfl)) | (apply jr; (apply ni tab; (focus (conv => lhs; whnf; arg 1; whnf; arg 2; whnf); try exact rfl); (exact trivial); exact rfl)) | (apply ak))) | (apply bq; (first | (apply bg) | (apply ah) | (apply ed))) | (apply bf))
  refine ve (fun i : Nat => [(0, .sl .sh 9 (xs.map vl)), (1, .fn (.func g) [] caps), (7, .int .i64 xs.length), (8, .int .i64 i)]) (fun _ => σ) (fun i => i ≤ xs.length ∧ ∀ j, j < i → p (xs.getD j default) = false) (fun i => xs.length - i) 0 ⟨Nat.zero_le _, fun j hj => by omega⟩ ?_ rfl ?_
  · (repeat' (first | exact trivial | exact Wk.same _ | (refine Wk.eq ?_; (conv => rhs; whnf); simp <;> fail) | refine ⟨?_, ?_⟩))
  rintro i ⟨hi, hno⟩
  rcases Nat.lt_or_ge i xs.length with hlt | hge
  · have c1 : decide ((i : Int) < (xs.length : Int)) = true := by simp; omega
    repeat' (first | (apply bn; (first | (apply bv; (apply bu (tt := tt); (focus (conv => lhs; whnf); try exact rfl); exact rfl)) | (apply ai; (apply az (tt := tt); (focus (conv => lhs; whnf); try exact rfl); exact rfl)) | (apply dw; (apply di true tab; (focus (conv => lhs; whnf; arg 1; whnf; arg 2; whnf); try exact rfl); (exact trivial); exact rfl)) | (apply fq; (apply ou tab; (focus (conv => lhs; whnf; arg 1; whnf; arg 2; whnf); try skip); (exact nlb rfl); exact rfl)) | (apply j5; (refine lw (tI := 3) _ tab rfl (by (focus (conv => lhs; whnf); try exact rfl)) (by (focus (conv => lhs; whnf); try exact rfl)) rfl (by (omega)) (by (omega)) (by (focus (conv => lhs; whnf); try exact rfl)) (ltn rfl) ?_)) | (apply ak))) | (apply bq; (first | (apply bg) | (apply ah) | (apply df; exact rfl; (assumption)) | (apply gz) | (apply ed))) | (apply bf))
    refine adh (tt := tt) hg (hf _ (uq hlt)) rfl rfl rfl (by simpa [PV.isTup, vl] using htup) rfl ?_
    repeat' (first | (apply bn; (first | (apply bv; (apply bu (tt := tt); (focus (conv => lhs; whnf); try exact rfl); exact rfl)) | (apply ai; (apply az (tt := tt); (focus (conv => lhs; whnf); try exact rfl); exact rfl)) | (apply dw; (apply di true tab; (focus (conv => lhs; whnf; arg 1; whnf; arg 2; whnf); try exact rfl); (simp only [InR]; omega); exact rfl)) | (apply ak))) | (apply bq; (first | (apply bg) | (apply ah) | (apply qo; exact (rfl : _ = PV.bool _); all_goals intro hb) | (apply gz) | (apply dn))) | (apply bf) | (apply lq) | (apply ng) | (apply om))
    · (change gu _ _ _ _ _ _ _; apply fu; (exact .inr rfl); (focus (repeat' (first | (apply lc; (focus (conv => lhs; whnf); try exact rfl); (exact Wk.same _)) | exact iq))); exact rfl; (exact (List.append_nil _).symm); exact Nat.le_refl _; (focus (repeat' (first | exact trivial | refine ⟨?_, ?_⟩))); exact hso)
      exact ⟨by rw [aay hlt hno hb]; rfl, rfl⟩
    · refine ⟨i + 1, ⟨by omega, fun j hj => ?_⟩, by omega, ?_, rfl⟩
      · by_cases e : j = i
        · subst e; exact hb
        · exact hno j (by omega)
      · (repeat' (first | exact trivial | exact Wk.same _ | refine ⟨?_, ?_⟩))
  · have c1 : decide ((i : Int) < (xs.length : Int)) = false := by simp; omega
    repeat' (first | (apply bn; (first | (apply ai; (apply az (tt := tt); (focus (conv => lhs; whnf); try exact rfl); exact rfl)) | (apply dw; (apply di true tab; (focus (conv => lhs; whnf; arg 1; whnf; arg 2; whnf); try exact rfl); (exact trivial); exact rfl)) | (apply ak))) | (apply bq; (first | (apply bg) | (apply ah) | (apply dm; exact rfl; (assumption)) | (apply dn) | (apply oo))) | (apply bf) | (apply o9) | (apply pg))
    (change gu _ _ _ _ _ _ _; apply fu; (exact .inr rfl); (focus (repeat' (first | (apply lc; (focus (conv => lhs; whnf); try exact rfl); (exact Wk.same _)) | exact iq))); exact rfl; (exact (List.append_nil _).symm); exact Nat.le_refl _; (focus (repeat' (first | exact trivial | refine ⟨?_, ?_⟩))); exact hso)
    exact ⟨by rw [acs fun j hj => hno j (by omega)]; rfl, rfl⟩
theorem asq (v : Vl) (i : Nat) (id : Int) (σ : Sto) (hi : σ[i]? = some (.cells [.int .i64 id])) : jo Try.prog 100 [vl v, .ptr i 0] σ fun x σ' => x = .bool (v.id == id) ∧ σ' = σ := by
  refine ny tab Try.func100 rfl (nlb rfl) (by decide) fun hso => oh ?_
  repeat' (first | (apply bn; (first | (apply ai; (apply az (tt := tt); (focus (conv => lhs; whnf); try exact rfl); exact rfl)) | (apply dw; (apply di true tab; (focus (conv => lhs; whnf; arg 1; whnf; arg 2; whnf); try exact rfl); (exact trivial); exact rfl)) | (apply fq; (first | (apply aa; (apply aj tab; exact rfl; exact rfl; exact rfl; (focus (conv => lhs; whnf; arg 1; whnf; arg 2; whnf); try skip); (exact trivial)); (intro c h; cases h); exact rfl) | (apply aa; (apply jb tab; exact rfl; exact rfl; (exact ag (by assumption)); (focus (conv => lhs; whnf; arg 1; whnf; arg 2; whnf); try skip); (exact trivial)); (intro c h; cases h); exact rfl))) | (apply cu; (apply aa; (apply af tab; exact rfl; (focus (conv => lhs; whnf); try exact rfl); exact rfl; (exact (rfl : _ = 0))); (intro c h; cases h); exact rfl)) | (apply lu; (apply kg (tt := tt); (focus (conv => lhs; whnf); try exact rfl); exact rfl; (exact (rfl : _ = 0)); exact rfl)) | (apply ak))) | (apply bq; (first | (apply bg) | (apply ah) | (apply dn))) | (apply bf))
  (change gu _ _ _ _ _ _ _; apply fu; (exact .inr rfl); (focus (repeat' (first | (apply lc; (focus (conv => lhs; whnf); try exact rfl); (exact Wk.same _)) | exact iq))); exact rfl; (exact rfl); exact Nat.le_refl _; (focus (repeat' (first | exact trivial | refine ⟨?_, ?_⟩))); exact hso)
  exact ⟨rfl, rfl⟩
theorem x9 {α : Type} {p : α → Bool} {xs : List α} (h : 0 ≤ qc p xs) : (qc p xs).toNat < xs.length := by
  unfold qc at h ⊢
  split at h
  · rename_i i hi
    rw [List.findIdx?_eq_some_iff_getElem] at hi
    obtain ⟨h1, _⟩ := hi
    simpa using h1
  · omega
theorem aeg {α : Type} {p : α → Bool} {xs : List α} (h : qc p xs < 0) : qc p xs = -1 := by
  unfold qc at h ⊢
  split at h
  · omega
  · rfl
def abq {α : Type} [Inhabited α] (p : α → Bool) (xs : List α) : α := if qc p xs < 0 then default else xs.getD (qc p xs).toNat default
theorem ao9 {g : FuncId} {caps : List PV} (p : Vl → Bool) (xs : List Vl) (hl : xs.length ≤ 1048576) (σ : Sto) (hg : jd Try.prog g) (hf : ∀ ex : Sto, ∀ x ∈ xs, jo Try.prog g (vl x :: caps) (σ ++ ex) fun r σ' => r = .bool (p x) ∧ σ' = σ ++ ex) (htup : (caps.all fun p => !p.isTup) = true) :
    jo Try.prog 99 [.sl .sh 9 (xs.map vl), .fn (.func g) [] caps] σ fun x σ' => x = .tup [vl (abq p xs), .int .i64 (qc p xs)] ∧ σ' = σ := by
  refine ny tab Try.func99 rfl (nlb rfl) (by decide) fun hso => oh ?_
  repeat' (first | (apply bn; (first | (apply bv; (apply bu (tt := tt); (focus (conv => lhs; whnf); try exact rfl); exact rfl)) | (apply ai; (apply az (tt := tt); (focus (conv => lhs; whnf); try exact rfl); exact rfl)) | (apply je; (apply ik tab; exact rfl; exact rfl; (exact (rfl : _ = 0)); exact rfl)) | (apply ak))) | (apply bq; (first | (apply bg) | (apply ah))) | (apply bf))
  refine cz (tt := tt) aws (ajr p xs (by omega) _ hg (hf _) htup) rfl rfl rfl rfl rfl ?_
  by_cases h : qc p xs < 0
  · have c1 : decide (qc p xs < 0) = true := decide_eq_true h
    have e1 : abq p xs = default := if_pos h
    rw [e1, aeg h]
    rw [aeg h] at c1
    repeat' (first | (apply bn; (first | (apply bv; (apply bu (tt := tt); (focus (conv => lhs; whnf); try exact rfl); exact rfl)) | (apply ai; (apply az (tt := tt); (focus (conv => lhs; whnf); try exact rfl); exact rfl)) | (apply dw; (apply di true tab; (focus (conv => lhs; whnf; arg 1; whnf; arg 2; whnf); try exact rfl); (exact trivial); exact rfl)) | (apply fq; (apply aa; (apply aj tab; exact rfl; exact rfl; exact rfl; (focus (conv => lhs; whnf; arg 1; whnf; arg 2; whnf); try skip); (exact nlb rfl)); (intro c h; cases h); exact rfl)) | (apply gq; (apply dz tab; exact rfl; exact rfl; exact rfl; exact rfl; exact rfl; exact rfl; exact rfl; exact rfl)) | (apply je; (apply ik tab; exact rfl; exact rfl; (exact (rfl : _ = 1)); exact rfl)) | (apply ak))) | (apply bq; (first | (apply bg) | (apply ah) | (apply df; exact rfl; (exact rfl)) | (apply dn))) | (apply bf) | (apply lq))
    (change gu _ _ _ _ _ _ _; apply fu; (exact .inr rfl); (focus (repeat' (first | (apply lc; (focus (conv => lhs; whnf); try exact rfl); (exact Wk.same _)) | (apply mr; exact rfl; exact rfl; exact rfl; (focus (conv => lhs; whnf; arg 1; whnf; arg 2; whnf); try skip); (exact nlb rfl)) | exact iq))); exact rfl; (exact rfl); exact Nat.le_refl _; (focus (repeat' (first | exact trivial | refine ⟨?_, ?_⟩))); exact hso)
    exact ⟨rfl, rfl⟩
  · have c1 : decide (qc p xs < 0) = false := decide_eq_false h
    have e1 : abq p xs = xs.getD (qc p xs).toNat default := if_neg h
    have hlt := x9 (p := p) (xs := xs) (by omega)
    have h0 : 0 ≤ qc p xs := by omega
    rw [e1]
    generalize qc p xs = q at *
    repeat' (first | (apply bn; (first | (apply bv; (apply bu (tt := tt); (focus (conv => lhs; whnf); try exact rfl); exact rfl)) | (apply ai; (apply az (tt := tt); (focus (conv => lhs; whnf); try exact rfl); exact rfl)) | (apply dw; (apply di true tab; (focus (conv => lhs; whnf; arg 1; whnf; arg 2; whnf); try exact rfl); (exact trivial); exact rfl)) | (apply fq; (apply ou tab; (focus (conv => lhs; whnf; arg 1; whnf; arg 2; whnf); try skip); (exact nlb rfl); exact rfl)) | (apply j5; (refine lw (tI := 3) _ tab rfl (by (focus (conv => lhs; whnf); try exact rfl)) (by (focus (conv => lhs; whnf); try exact rfl)) rfl (by (omega)) (by (omega)) (by (focus (conv => lhs; whnf); try exact rfl)) (ltn rfl) ?_)) | (apply gq; (apply dz tab; exact rfl; exact rfl; exact rfl; exact rfl; exact rfl; exact rfl; exact rfl; exact rfl)) | (apply ak))) | (apply bq; (first | (apply bg) | (apply ah) | (apply dm; exact rfl; (assumption)) | (apply gz) | (apply dn))) | (apply bf))
    (change gu _ _ _ _ _ _ _; apply fu; (exact .inr rfl); (focus (repeat' (first | (apply lc; (focus (conv => lhs; whnf); try exact rfl); (exact Wk.same _)) | (apply mr; exact rfl; exact rfl; exact rfl; (focus (conv => lhs; whnf; arg 1; whnf; arg 2; whnf); try skip); (exact nlb rfl)) | exact iq))); exact rfl; (exact rfl); exact Nat.le_refl _; (focus (repeat' (first | exact trivial | refine ⟨?_, ?_⟩))); exact hso)
    exact ⟨rfl, rfl⟩
def ol (x : Ix) (id : Int) : Int := qc (fun v => v.id == id) x.vols
def asy (x : Ix) (id : Int) : Vl := abq (fun v => v.id == id) x.vols
theorem abv (x : Ix) (id : Int) (hl : x.vols.length ≤ 1048576) (σ : Sto) : jo Try.prog 85 [ix x, .int .i64 id] σ fun r σ' => r = .tup [vl (asy x id), .int .i64 (ol x id)] ∧ σ' = σ := by
  refine ny tab Try.func85 rfl (nlb rfl) (by decide) fun hso => oh ?_
  repeat' (first | (apply bn; (first | (apply ai; (apply az (tt := tt); (focus (conv => lhs; whnf); try exact rfl); exact rfl)) | (apply fq; (apply aa; (apply aj tab; exact rfl; exact rfl; exact rfl; (focus (conv => lhs; whnf; arg 1; whnf; arg 2; whnf); try skip); (exact trivial)); (intro c h; cases h); exact rfl)) | (apply cu; (apply aa; (apply af tab; exact rfl; (focus (conv => lhs; whnf); try exact rfl); exact rfl; (exact (rfl : _ = 0))); (intro c h; cases h); exact rfl)) | (apply qd; (apply aa; (apply dx (tt := tt); exact rfl; exact rfl; (focus (conv => lhs; whnf); try exact rfl)); (intro c h; cases h); exact rfl)) | (apply je; (apply ik tab; exact rfl; exact rfl; (exact (rfl : _ = 2)); exact rfl)) | (apply lu; (apply kg (tt := tt); (focus (conv => lhs; whnf); try exact rfl); exact rfl; (first | exact (rfl : _ = 0) | exact (rfl : _ = 1)); exact rfl)) | (apply ak))) | (apply bq; (first | (apply bg) | (apply ah))) | (apply bf))
  refine cz (tt := tt) ayk (ao9 (fun v => v.id == id) x.vols hl _ aw8 (fun ex y _ => asq y _ id _ ?_) ?_) rfl rfl rfl rfl rfl ?_
  rotate_left 2
  · repeat' (first | (apply bn; (first | (apply ai; (apply az (tt := tt); (focus (conv => lhs; whnf); try exact rfl); exact rfl)) | (apply iw; (apply iy (tt := tt); (focus (conv => lhs; whnf; arg 1; whnf; arg 2; whnf); try exact rfl); (exact trivial); exact rfl)) | (apply gq; (apply dz tab; exact rfl; exact rfl; exact rfl; exact rfl; exact rfl; exact rfl; exact rfl; exact rfl)) | (apply ak))) | (apply bq; (apply dn)) | (apply bf))
    (change gu _ _ _ _ _ _ _; apply fu; (exact .inr rfl); (focus (repeat' (first | (apply lc; (focus (conv => lhs; whnf); try exact rfl); (exact Wk.same _)) | (apply mr; exact rfl; exact rfl; exact rfl; (focus (conv => lhs; whnf; arg 1; whnf; arg 2; whnf); try skip); (exact nlb rfl)) | exact iq))); exact rfl; (exact rfl); exact Nat.le_refl _; (focus (repeat' (first | exact trivial | refine ⟨?_, ?_⟩))); exact hso)
    exact ⟨rfl, rfl⟩
  · exact ag (wo _)
  · rfl
end Go.Proofs.Ytbpjaiemlkcccaa.Pv
end
section
/- The document's answer for indexes: may a command be; the place of a name, of a session; another volume in a place. -/
namespace Go.Proofs.Ytbpjaiemlkcccaa.Pv
open Go
set_option maxRecDepth 100000
structure Cm where
  kind : Int
  client : Int
  seq : Int
  name : ByteArray
  vol : Int
  off : Int
  n : Int
  sum : Int
  region : Int
  mate : Int
  idx : Int
  places : List (Int × Int)
  deriving Inhabited, DecidableEq
def cm (c : Cm) : PV :=
  .agg [.int .i64 c.kind, .int .i64 c.client, .int .i64 c.seq, .str c.name, .int .i64 c.vol, .int .i64 c.off, .int .i64 c.n, .int .u32 c.sum, .int .i64 c.region, .int .i64 c.mate, .int .i64 c.idx, .sl .sh 2 (c.places.map plc)]
structure Rp where
  err : Int
  vol : Int
  off : Int
  n : Int
  sum : Int
  found : Bool
  deriving Inhabited, DecidableEq
def rp (r : Rp) : PV :=
  .agg [.int .i64 r.err, .int .i64 r.vol, .int .i64 r.off, .int .i64 r.n, .int .u32 r.sum, .bool r.found]
def si (n : Int) : Bool := decide (0 ≤ n ∧ n ≤ 1048576)
theorem abx (n : Int) (σ : Sto) : jo Try.prog 52 [.int .i64 n] σ fun r σ' => r = .bool (si n) ∧ σ' = σ := by
  refine ny tab Try.func52 rfl (nlb rfl) (by decide) fun hso => oh ?_
  repeat' (first | (apply bn; (first | (apply jq; (first | (apply jc; exact (rfl : _ = some _); exact (rfl : _ = PV.bool _); (assumption)) | (apply ky; exact (rfl : _ = some _); exact (rfl : _ = PV.bool _); (assumption); exact ltn rfl) | (apply qm; exact (rfl : _ = some _); exact (rfl : _ = PV.bool _); all_goals intro hb))) | (apply bv; (apply bu (tt := tt); (focus (conv => lhs; whnf); try exact rfl); exact rfl)) | (apply ai; (apply az (tt := tt); (focus (conv => lhs; whnf); try exact rfl); exact rfl)) | (apply dw; (apply di true tab; (focus (conv => lhs; whnf; arg 1; whnf; arg 2; whnf); try exact rfl); (exact trivial); exact rfl)) | (apply kr; (apply ku (tt := tt); exact (rfl : _ = PV.bool _); (first | refine .inl ⟨by assumption, ?_⟩ | refine .inr ⟨by assumption, ?_⟩); (focus (conv => lhs; whnf); try exact rfl); exact ltn rfl)) | (apply ak))) | (apply bq; (first | (apply bg) | (apply ah) | (apply dn))) | (apply bf))
  all_goals (change gu _ _ _ _ _ _ _; apply fu; (exact .inr rfl); (focus (repeat' (first | (apply lc; (focus (conv => lhs; whnf); try exact rfl); (exact Wk.same _)) | exact iq))); exact rfl; (exact rfl); exact Nat.le_refl _; (focus (repeat' (first | exact trivial | refine ⟨?_, ?_⟩))); exact hso)
  all_goals refine ⟨?_, rfl⟩
  all_goals simp only [decide_eq_true_eq, decide_eq_false_iff_not] at *
  all_goals simp only [abb, si, PV.bool.injEq]
  all_goals first | rfl | (symm; rw [decide_eq_false_iff_not]; omega) | (rw [decide_eq_decide]; omega)
def adm (p : Int × Int) : Bool := decide ((1 ≤ p.1 ∧ p.1 ≤ 3) ∧ (0 ≤ p.2 ∧ p.2 ≤ 63))
def af3 (c : Cm) : Bool := decide ((1 ≤ c.kind ∧ c.kind ≤ 9) ∧ (0 ≤ c.client ∧ c.client ≤ 16) ∧ (0 ≤ c.seq ∧ c.seq ≤ 1073741824) ∧ c.name.size ≤ 16 ∧ c.places.length ≤ 14)
def vk (c : Cm) : Bool := af3 c && ((si c.vol && si c.off && si c.n) && (si c.region && si c.mate && si c.idx)) && c.places.all adm
theorem aks {c : Cm} (h : af3 c = false) : vk c = false := by simp [vk, h]
set_option maxHeartbeats 4000000 in
theorem ahz (c : Cm) (hl : c.places.length ≤ 1048576) (hn : c.name.size ≤ 1048576) (σ : Sto) : jo Try.prog 33 [cm c] σ fun r σ' => r = .bool (vk c) ∧ σ' = σ := by
  refine ny tab Try.func33 rfl (nlb rfl) (by decide) fun hso => oh ?_
  by_cases hh : af3 c = true
  · have h := of_decide_eq_true hh
    obtain ⟨⟨g1, g2⟩, ⟨g3, g4⟩, ⟨g5, g6⟩, g7, g8⟩ := h
    have c1 : decide (c.kind < 1) = false := decide_eq_false (by omega)
    have c2 : decide (9 < c.kind) = false := decide_eq_false (by omega)
    have c3 : decide (c.client < 0) = false := decide_eq_false (by omega)
    have c4 : decide (16 < c.client) = false := decide_eq_false (by omega)
    have c5 : decide (c.seq < 0) = false := decide_eq_false (by omega)
    have c6 : decide (1073741824 < c.seq) = false := decide_eq_false (by omega)
    have c7 : decide (16 < (c.name.size : Int)) = false := decide_eq_false (by omega)
    have c8 : decide (14 < (c.places.length : Int)) = false := decide_eq_false (by omega)
    by_cases hb : ((si c.vol && si c.off && si c.n) && (si c.region && si c.mate && si c.idx)) = true
    · have hmc : vk c = c.places.all adm := by rw [vk, hh, hb]; rfl
      rw [hmc]
      simp only [Bool.and_eq_true] at hb
      obtain ⟨⟨⟨b1, b2⟩, b3⟩, ⟨b4, b5⟩, b6⟩ := hb
      have s1 := abx c.vol
      have s2 := abx c.off
      have s3 := abx c.n
      have s4 := abx c.region
      have s5 := abx c.mate
      have s6 := abx c.idx
      rw [b1] at s1
      rw [b2] at s2
      rw [b3] at s3
      rw [b4] at s4
      rw [b5] at s5
      rw [b6] at s6
      repeat' (first | (apply bn; (first | (apply jq; (apply jc; exact (rfl : _ = some _); exact (rfl : _ = PV.bool _); (first | exact rfl | assumption))) | (apply bv; (apply bu (tt := tt); (focus (conv => lhs; whnf); try exact rfl); exact rfl)) | (apply ai; (apply az (tt := tt); (focus (conv => lhs; whnf); try exact rfl); exact rfl)) | (apply ji; (first | (refine cz (tt := tt) af8 (s1 _) rfl rfl rfl rfl rfl ?_) | (refine cz (tt := tt) af8 (s2 _) rfl rfl rfl rfl rfl ?_) | (refine cz (tt := tt) af8 (s3 _) rfl rfl rfl rfl rfl ?_) | (refine cz (tt := tt) af8 (s4 _) rfl rfl rfl rfl rfl ?_) | (refine cz (tt := tt) af8 (s5 _) rfl rfl rfl rfl rfl ?_) | (refine cz (tt := tt) af8 (s6 _) rfl rfl rfl rfl rfl ?_))) | (apply dw; (apply di true tab; (focus (conv => lhs; whnf; arg 1; whnf; arg 2; whnf); try exact rfl); (exact trivial); exact rfl)) | (apply kr; (apply ku (tt := tt); exact (rfl : _ = PV.bool _); (first | refine .inl ⟨rfl, ?_⟩ | refine .inr ⟨rfl, ?_⟩ | refine .inr ⟨by assumption, ?_⟩); (focus (conv => lhs; whnf); try exact rfl); exact ltn rfl)) | (apply fq; (apply aa; (apply aj tab; exact rfl; exact rfl; exact rfl; (focus (conv => lhs; whnf; arg 1; whnf; arg 2; whnf); try skip); (exact trivial)); (intro c h; cases h); exact rfl)) | (apply jr; (apply ni tab; (focus (conv => lhs; whnf; arg 1; whnf; arg 2; whnf); try exact rfl); (exact trivial); exact rfl)) | (apply cu; (apply aa; (apply af tab; exact rfl; (focus (conv => lhs; whnf); try exact rfl); exact rfl; (first | exact (rfl : _ = 0) | exact (rfl : _ = 1) | exact (rfl : _ = 2) | exact (rfl : _ = 3) | exact (rfl : _ = 4) | exact (rfl : _ = 5) | exact (rfl : _ = 6) | exact (rfl : _ = 8) | exact (rfl : _ = 9) | exact (rfl : _ = 10) | exact (rfl : _ = 11))); (intro c h; cases h); exact rfl)) | (apply qy; (apply pu (tt := tt) true; (focus (conv => lhs; whnf; arg 1; whnf; arg 2; whnf); try exact rfl); (exact trivial); exact rfl)) | (apply lu; (apply kg (tt := tt); (focus (conv => lhs; whnf); try exact rfl); exact rfl; (exact (rfl : _ = 0)); exact rfl)) | (apply ak))) | (apply bq; (first | (apply bg) | (apply ah) | (apply dm; exact rfl; (first | exact rfl | (simp only [List.length_map]; assumption))) | (apply gz) | (apply ed))) | (apply bf))
      refine acn (fun i : Nat => [(1, .ptr (σ.length + 0) 0), (5, .int .i64 i)]) (fun _ => σ ++ [.cells (cm c).cells]) (fun i => i ≤ c.places.length ∧ ∀ j, j < i → adm (c.places.getD j default) = true) (fun i => c.places.length - i) 0 ⟨Nat.zero_le _, fun j hj => by omega⟩ ?_ rfl ?_
      · (repeat' (first | exact trivial | exact Wk.same _ | refine ⟨?_, ?_⟩))
      rintro i ⟨hi, hno⟩
      by_cases hil : i < c.places.length
      · have d1 : decide ((i : Int) < (c.places.length : Int)) = true := decide_eq_true (by omega)
        by_cases ho : adm (c.places.getD i default) = true
        · obtain ⟨⟨o1, o2⟩, o3, o4⟩ := of_decide_eq_true ho
          have e1 : decide ((c.places.getD i default).1 < 1) = false := decide_eq_false (by omega)
          have e2 : decide (3 < (c.places.getD i default).1) = false := decide_eq_false (by omega)
          have e3 : decide ((c.places.getD i default).2 < 0) = false := decide_eq_false (by omega)
          have e4 : decide (63 < (c.places.getD i default).2) = false := decide_eq_false (by omega)
          repeat' (first | (apply bn; (first | (apply jq; (apply jc; exact (rfl : _ = some _); exact (rfl : _ = PV.bool _); (assumption))) | (apply bv; (apply bu (tt := tt); (focus (conv => lhs; whnf); try exact rfl); exact rfl)) | (apply ai; (apply az (tt := tt); (focus (conv => lhs; whnf); try exact rfl); exact rfl)) | (apply dw; (apply di true tab; (focus (conv => lhs; whnf; arg 1; whnf; arg 2; whnf); try exact rfl); (first | exact trivial | (simp only [InR]; omega)); exact rfl)) | (apply kr; (apply ku (tt := tt); exact (rfl : _ = PV.bool _); (refine .inr ⟨by assumption, ?_⟩); (focus (conv => lhs; whnf); try exact rfl); exact ltn rfl)) | (apply fq; (first | (apply aa; (apply aj tab; exact rfl; exact rfl; exact rfl; (focus (conv => lhs; whnf; arg 1; whnf; arg 2; whnf); try skip); (exact trivial)); (intro c h; cases h); exact rfl) | (apply ou tab; (focus (conv => lhs; whnf; arg 1; whnf; arg 2; whnf); try skip); (exact nlb rfl); exact rfl))) | (apply jr; (apply ni tab; (focus (conv => lhs; whnf; arg 1; whnf; arg 2; whnf); try exact rfl); (exact trivial); exact rfl)) | (apply j5; (refine lw (tI := 3) _ tab rfl (by (focus (conv => lhs; whnf); try exact rfl)) (by (focus (conv => lhs; whnf); try exact rfl)) rfl (by (omega)) (by (omega)) (by (focus (conv => lhs; whnf); try exact rfl)) (ltn rfl) ?_)) | (apply cu; (apply aa; (apply af tab; exact rfl; (focus (conv => lhs; whnf); try exact rfl); exact rfl; (first | exact (rfl : _ = 0) | exact (rfl : _ = 1) | exact (rfl : _ = 11))); (intro c h; cases h); exact rfl)) | (apply gq; (apply dz tab; exact rfl; exact rfl; exact rfl; exact rfl; exact rfl; exact rfl; exact rfl; exact rfl)) | (apply je; (apply ik tab; exact rfl; exact rfl; (exact (rfl : _ = 1)); exact rfl)) | (apply ak))) | (apply bq; (first | (apply bg) | (apply ah) | (apply df; exact rfl; (simp only [List.length_map]; assumption)) | (apply dm; exact rfl; (assumption)) | (apply gz) | (apply ed))) | (apply bf) | (apply ng))
          refine ⟨i + 1, ⟨by omega, fun j hj => ?_⟩, by omega, ?_, ?_⟩
          · by_cases e' : j = i
            · subst e'; exact ho
            · exact hno j (by omega)
          · (repeat' (first | exact trivial | exact Wk.same _ | refine ⟨?_, ?_⟩))
          · exact uo 1 rfl (by simp) (um hso (by simp [Ent.lt, o6, PV.lt, PV.cells, cm])) (vw (by simp [PV.lt, cm]))
        · have ha : c.places.all adm = false := by
            cases h : c.places.all adm with
            | false => rfl
            | true => exact absurd (List.all_eq_true.1 h _ (uq hil)) ho
          have ho' : ¬ ((1 ≤ (c.places.getD i default).1 ∧ (c.places.getD i default).1 ≤ 3) ∧ (0 ≤ (c.places.getD i default).2 ∧ (c.places.getD i default).2 ≤ 63)) := fun h => ho (decide_eq_true h)
          rw [ha]
          repeat' (first | (apply bn; (first | (apply jq; (first | (apply jc; exact (rfl : _ = some _); exact (rfl : _ = PV.bool _); (assumption)) | (apply ky; exact (rfl : _ = some _); exact (rfl : _ = PV.bool _); (first | exact rfl | assumption); exact ltn rfl) | (apply qm; exact (rfl : _ = some _); exact (rfl : _ = PV.bool _); all_goals intro hb))) | (apply bv; (apply bu (tt := tt); (focus (conv => lhs; whnf); try exact rfl); exact rfl)) | (apply ai; (apply az (tt := tt); (focus (conv => lhs; whnf); try exact rfl); exact rfl)) | (apply dw; (apply di true tab; (focus (conv => lhs; whnf; arg 1; whnf; arg 2; whnf); try exact rfl); (first | exact trivial | (simp only [InR]; omega)); exact rfl)) | (apply kr; (apply ku (tt := tt); exact (rfl : _ = PV.bool _); (first | refine .inl ⟨rfl, ?_⟩ | refine .inl ⟨by assumption, ?_⟩ | refine .inr ⟨by assumption, ?_⟩); (focus (conv => lhs; whnf); try exact rfl); exact ltn rfl)) | (apply fq; (first | (apply aa; (apply aj tab; exact rfl; exact rfl; exact rfl; (focus (conv => lhs; whnf; arg 1; whnf; arg 2; whnf); try skip); (exact trivial)); (intro c h; cases h); exact rfl) | (apply ou tab; (focus (conv => lhs; whnf; arg 1; whnf; arg 2; whnf); try skip); (exact nlb rfl); exact rfl))) | (apply jr; (apply ni tab; (focus (conv => lhs; whnf; arg 1; whnf; arg 2; whnf); try exact rfl); (exact trivial); exact rfl)) | (apply j5; (refine lw (tI := 3) _ tab rfl (by (focus (conv => lhs; whnf); try exact rfl)) (by (focus (conv => lhs; whnf); try exact rfl)) rfl (by (omega)) (by (omega)) (by (focus (conv => lhs; whnf); try exact rfl)) (ltn rfl) ?_)) | (apply cu; (apply aa; (apply af tab; exact rfl; (focus (conv => lhs; whnf); try exact rfl); exact rfl; (first | exact (rfl : _ = 0) | exact (rfl : _ = 1) | exact (rfl : _ = 11))); (intro c h; cases h); exact rfl)) | (apply gq; (apply dz tab; exact rfl; exact rfl; exact rfl; exact rfl; exact rfl; exact rfl; exact rfl; exact rfl)) | (apply je; (apply ik tab; exact rfl; exact rfl; (exact (rfl : _ = 1)); exact rfl)) | (apply ak))) | (apply bq; (first | (apply bg) | (apply ah) | (apply df; exact rfl; (first | exact rfl | (simp only [List.length_map]; assumption))) | (apply qo; exact (rfl : _ = PV.bool _); all_goals intro hb) | (apply gz) | (apply dn) | (apply ed))) | (apply bf) | (apply lq) | (apply ng) | (apply om))
          all_goals first
            | ((change gu _ _ _ _ _ _ _; apply fu; (exact .inr rfl); (focus (repeat' (first | (apply lc; (focus (conv => lhs; whnf); try exact rfl); (exact Wk.same _)) | exact iq))); exact rfl; (exact rfl); exact Nat.le_refl _; (focus (repeat' (first | exact trivial | refine ⟨?_, ?_⟩))); exact hso)
               exact ⟨rfl, rfl⟩)
            | (exfalso; simp only [decide_eq_true_eq, decide_eq_false_iff_not, Int.toNat_natCast] at *; omega)
      · have d1 : decide ((i : Int) < (c.places.length : Int)) = false := decide_eq_false (by omega)
        have ha : c.places.all adm = true := List.all_eq_true.2 fun y hy => by
          obtain ⟨j, hj, e⟩ := List.getElem_of_mem hy
          have := hno j (by omega)
          rw [List.getD_eq_getElem?_getD, List.getElem?_eq_getElem hj] at this
          rw [← e]; exact this
        rw [ha]
        repeat' (first | (apply bn; (first | (apply bv; (apply bu (tt := tt); (focus (conv => lhs; whnf); try exact rfl); exact rfl)) | (apply ai; (apply az (tt := tt); (focus (conv => lhs; whnf); try exact rfl); exact rfl)) | (apply dw; (apply di true tab; (focus (conv => lhs; whnf; arg 1; whnf; arg 2; whnf); try exact rfl); (exact trivial); exact rfl)) | (apply fq; (apply aa; (apply aj tab; exact rfl; exact rfl; exact rfl; (focus (conv => lhs; whnf; arg 1; whnf; arg 2; whnf); try skip); (exact trivial)); (intro c h; cases h); exact rfl)) | (apply jr; (apply ni tab; (focus (conv => lhs; whnf; arg 1; whnf; arg 2; whnf); try exact rfl); (exact trivial); exact rfl)) | (apply cu; (apply aa; (apply af tab; exact rfl; (focus (conv => lhs; whnf); try exact rfl); exact rfl; (exact (rfl : _ = 11))); (intro c h; cases h); exact rfl)) | (apply ak))) | (apply bq; (first | (apply bg) | (apply ah) | (apply dm; exact rfl; (simp only [List.length_map]; assumption)) | (apply dn) | (apply oo))) | (apply bf) | (apply o9) | (apply pg))
        (change gu _ _ _ _ _ _ _; apply fu; (exact .inr rfl); (focus (repeat' (first | (apply lc; (focus (conv => lhs; whnf); try exact rfl); (exact Wk.same _)) | exact iq))); exact rfl; (exact rfl); exact Nat.le_refl _; (focus (repeat' (first | exact trivial | refine ⟨?_, ?_⟩))); exact hso)
        exact ⟨rfl, rfl⟩
    · have hmc : vk c = false := by rw [vk, hh]; simp only [Bool.not_eq_true] at hb; rw [hb]; rfl
      rw [hmc]
      repeat' (first | (apply bn; (first | (apply jq; (first | (apply jc; exact (rfl : _ = some _); exact (rfl : _ = PV.bool _); (assumption)) | (apply ky; exact (rfl : _ = some _); exact (rfl : _ = PV.bool _); (first | exact rfl | assumption); exact ltn rfl) | (apply qm; exact (rfl : _ = some _); exact (rfl : _ = PV.bool _); all_goals intro hb))) | (apply bv; (apply bu (tt := tt); (focus (conv => lhs; whnf); try exact rfl); exact rfl)) | (apply ai; (apply az (tt := tt); (focus (conv => lhs; whnf); try exact rfl); exact rfl)) | (apply ji; (refine cz (tt := tt) af8 (abx _ _) rfl rfl rfl rfl rfl ?_)) | (apply dw; (apply di true tab; (focus (conv => lhs; whnf; arg 1; whnf; arg 2; whnf); try exact rfl); (exact trivial); exact rfl)) | (apply kr; (apply ku (tt := tt); exact (rfl : _ = PV.bool _); (first | refine .inl ⟨rfl, ?_⟩ | refine .inr ⟨rfl, ?_⟩ | refine .inl ⟨by assumption, ?_⟩ | refine .inr ⟨by assumption, ?_⟩); (focus (conv => lhs; whnf); try exact rfl); exact ltn rfl)) | (apply fq; (apply aa; (apply aj tab; exact rfl; exact rfl; exact rfl; (focus (conv => lhs; whnf; arg 1; whnf; arg 2; whnf); try skip); (exact trivial)); (intro c h; cases h); exact rfl)) | (apply jr; (apply ni tab; (focus (conv => lhs; whnf; arg 1; whnf; arg 2; whnf); try exact rfl); (exact trivial); exact rfl)) | (apply cu; (apply aa; (apply af tab; exact rfl; (focus (conv => lhs; whnf); try exact rfl); exact rfl; (first | exact (rfl : _ = 0) | exact (rfl : _ = 1) | exact (rfl : _ = 2) | exact (rfl : _ = 3) | exact (rfl : _ = 4) | exact (rfl : _ = 5) | exact (rfl : _ = 6) | exact (rfl : _ = 8) | exact (rfl : _ = 9) | exact (rfl : _ = 10) | exact (rfl : _ = 11))); (intro c h; cases h); exact rfl)) | (apply qy; (apply pu (tt := tt) true; (focus (conv => lhs; whnf; arg 1; whnf; arg 2; whnf); try exact rfl); (exact trivial); exact rfl)) | (apply lu; (apply kg (tt := tt); (focus (conv => lhs; whnf); try exact rfl); exact rfl; (exact (rfl : _ = 0)); exact rfl)) | (apply ak))) | (apply bq; (first | (apply bg) | (apply ah) | (apply df; exact rfl; (exact rfl)) | (apply dm; exact rfl; (simp only [List.length_map]; assumption)) | (apply qo; exact (rfl : _ = PV.bool _); all_goals intro hb) | (apply gz) | (apply dn) | (apply ed))) | (apply bf) | (apply lq))
      all_goals first
        | ((change gu _ _ _ _ _ _ _; apply fu; (exact .inr rfl); (focus (repeat' (first | (apply lc; (focus (conv => lhs; whnf); try exact rfl); (exact Wk.same _)) | exact iq))); exact rfl; (exact rfl); exact Nat.le_refl _; (focus (repeat' (first | exact trivial | refine ⟨?_, ?_⟩))); exact hso)
           exact ⟨rfl, rfl⟩)
        | (exfalso; simp_all; done)
  · have hh : af3 c = false := by simpa using hh
    have hmc := aks hh
    have h' := of_decide_eq_false hh
    rw [hmc]
    repeat' (first | (apply bn; (first | (apply jq; (first | (apply jc; exact (rfl : _ = some _); exact (rfl : _ = PV.bool _); (assumption)) | (apply ky; exact (rfl : _ = some _); exact (rfl : _ = PV.bool _); (first | exact rfl | assumption); exact ltn rfl) | (apply qm; exact (rfl : _ = some _); exact (rfl : _ = PV.bool _); all_goals intro hb))) | (apply bv; (apply bu (tt := tt); (focus (conv => lhs; whnf); try exact rfl); exact rfl)) | (apply ai; (apply az (tt := tt); (focus (conv => lhs; whnf); try exact rfl); exact rfl)) | (apply ji; (refine cz (tt := tt) af8 (abx _ _) rfl rfl rfl rfl rfl ?_)) | (apply dw; (apply di true tab; (focus (conv => lhs; whnf; arg 1; whnf; arg 2; whnf); try exact rfl); (exact trivial); exact rfl)) | (apply kr; (apply ku (tt := tt); exact (rfl : _ = PV.bool _); (first | refine .inl ⟨rfl, ?_⟩ | refine .inr ⟨rfl, ?_⟩ | refine .inl ⟨by assumption, ?_⟩ | refine .inr ⟨by assumption, ?_⟩); (focus (conv => lhs; whnf); try exact rfl); exact ltn rfl)) | (apply fq; (apply aa; (apply aj tab; exact rfl; exact rfl; exact rfl; (focus (conv => lhs; whnf; arg 1; whnf; arg 2; whnf); try skip); (exact trivial)); (intro c h; cases h); exact rfl)) | (apply jr; (apply ni tab; (focus (conv => lhs; whnf; arg 1; whnf; arg 2; whnf); try exact rfl); (exact trivial); exact rfl)) | (apply cu; (apply aa; (apply af tab; exact rfl; (focus (conv => lhs; whnf); try exact rfl); exact rfl; (first | exact (rfl : _ = 0) | exact (rfl : _ = 1) | exact (rfl : _ = 2) | exact (rfl : _ = 3) | exact (rfl : _ = 4) | exact (rfl : _ = 5) | exact (rfl : _ = 6) | exact (rfl : _ = 8) | exact (rfl : _ = 9) | exact (rfl : _ = 10) | exact (rfl : _ = 11))); (intro c h; cases h); exact rfl)) | (apply qy; (apply pu (tt := tt) true; (focus (conv => lhs; whnf; arg 1; whnf; arg 2; whnf); try exact rfl); (exact trivial); exact rfl)) | (apply lu; (apply kg (tt := tt); (focus (conv => lhs; whnf); try exact rfl); exact rfl; (exact (rfl : _ = 0)); exact rfl)) | (apply ak))) | (apply bq; (first | (apply bg) | (apply ah) | (apply df; exact rfl; (exact rfl)) | (apply qo; exact (rfl : _ = PV.bool _); all_goals intro hb) | (apply gz) | (apply dn) | (apply ed))) | (apply bf) | (apply lq))
    all_goals first
      | ((change gu _ _ _ _ _ _ _; apply fu; (exact .inr rfl); (focus (repeat' (first | (apply lc; (focus (conv => lhs; whnf); try exact rfl); (exact Wk.same _)) | exact iq))); exact rfl; (exact rfl); exact Nat.le_refl _; (focus (repeat' (first | exact trivial | refine ⟨?_, ?_⟩))); exact hso)
         exact ⟨rfl, rfl⟩)
      | (exfalso; simp only [decide_eq_true_eq, decide_eq_false_iff_not, List.length_map] at *; omega)
section
variable {P : Program} {l : Option Nat} {tt : TT} {n m : Nat} {all : Array Oper} {rest : List Oper} {env : Env} {τ ex : Sto} {Q : Post} {d : Nat} {ty : TypeId} {pos : String} {after : Array Edge}
end
def ql {α : Type} (l : List α) (i : Int) (x : α) : List α := if i < 0 then l ++ [x] else l.set i.toNat x
theorem aeb {α : Type} (l : List α) (i : Int) (x : α) : (ql l i x).length ≤ l.length + 1 := by
  unfold ql; split <;> simp
end Go.Proofs.Ytbpjaiemlkcccaa.Pv
end
section
/- What a command makes of an index (definitions); commands that are done one behind the other: how long an index grows; what is old stays so. -/
namespace Go.Proofs.Ytbpjaiemlkcccaa.Pv
open Go
set_option maxRecDepth 100000
def wholeAt (l : List (Int × Int)) (r : Int) (i : Nat) : Bool := (l.getD i default).1 == r && (List.range i).all fun k => !decide (l.getD k default = l.getD i default)
def zw (l : List (Int × Int)) (r : Int) : Bool := decide (l.length = 14) && (List.range l.length).all (wholeAt l r)
theorem akz {l : List (Int × Int)} {r : Int} {i : Nat} (hi : i < l.length) (h : wholeAt l r i = false) : zw l r = false := by
  unfold zw
  rw [Bool.and_eq_false_iff]
  right
  cases hb : (List.range l.length).all (wholeAt l r) with
  | false => rfl
  | true => rw [List.all_eq_true.1 hb i (List.mem_range.2 hi)] at h; cases h
theorem ap9 {l : List (Int × Int)} {r : Int} (h0 : l.length = 14) (h : ∀ i, i < l.length → wholeAt l r i = true) : zw l r = true := by
  unfold zw
  rw [decide_eq_true h0, Bool.true_and]
  exact List.all_eq_true.2 fun i hi => h i (List.mem_range.1 hi)
def refuse (e : Int) : Rp := ⟨e, 0, 0, 0, 0, false⟩
def u7 (x : Ix) (s : ByteArray) : Int := qc (fun n : Nm => wm n.name s) x.names
def aas (x : Ix) (c : Cm) : Ix × Rp :=
  if u7 x c.name < 0 then (x, ⟨0, 0, 0, 0, 0, false⟩)
  else if c.kind = 5 then (x, ⟨0, (x.names.getD (u7 x c.name).toNat default).vol, (x.names.getD (u7 x c.name).toNat default).off, (x.names.getD (u7 x c.name).toNat default).n, (x.names.getD (u7 x c.name).toNat default).sum, true⟩)
  else (⟨x.vols, x.names.take (u7 x c.name).toNat ++ x.names.drop ((u7 x c.name).toNat + 1), x.last⟩, ⟨0, 0, 0, 0, 0, true⟩)
def w64 (z : Int) : Int := IntKind.i64.wrap z
def ae8 (a b : Int) : Int := w64 (w64 (1000 + w64 (64 * a)) + b)
def aaa (a b : Vl) : Vl := ⟨a.id, a.home, a.mate, a.used, 4, a.parts, a.places, b.id, ae8 a.id b.id⟩
def aaw (a b : Vl) : Vl := ⟨b.id, b.home, b.mate, b.used, 4, b.parts, b.places, a.id, ae8 a.id b.id⟩
def aan (h : Int) (a b : Vl) (l : List (Int × Int)) : Vl := ⟨ae8 a.id b.id, h, 0, 0, 5, [], l, a.id, b.id⟩
def ae3 (x : Ix) (c : Cm) : Ix × Rp :=
  let i := ol x c.vol
  let k := ol x c.mate
  let a := x.vols.getD i.toNat default
  let b := x.vols.getD k.toNat default
  if i < 0 ∨ k < 0 then (x, refuse 7)
  else if a.phase ≠ 3 ∨ b.phase ≠ 3 ∨ a.home = b.home then (x, refuse 9)
  else if (uu a.home b.home).2 ≠ 0 ∨ zw c.places (uu a.home b.home).1 = false then (x, refuse 1)
  else if 48 ≤ x.vols.length then (x, refuse 5)
  else (⟨ql (ql (ql x.vols i (aaa a b)) k (aaw a b)) (-1) (aan (uu a.home b.home).1 a b c.places), x.names, x.last⟩, ⟨0, ae8 a.id b.id, 0, 0, 0, false⟩)
def gtN (s : ByteArray) (y : Nm) : Bool := !(ltS y.name s || wm y.name s)
def abh (c : Cm) : Nm := ⟨c.name, c.vol, c.off, c.n, c.sum⟩
def adj (x : Ix) (c : Cm) : List Nm :=
  if 0 ≤ u7 x c.name then x.names.set (u7 x c.name).toNat (abh c)
  else aby x.names (if qc (gtN c.name) x.names < 0 then x.names.length else (qc (gtN c.name) x.names).toNat) (abh c)
def aa6 (v : Vl) (c : Cm) : Vl := ⟨v.id, v.home, v.mate, v.used, v.phase, v.parts ++ [(c.off, c.n)], v.places, v.pair, v.sum⟩
def aco (x : Ix) (c : Cm) : Ix × Rp :=
  if wm c.name ⟨#[]⟩ = true then (x, refuse 1)
  else if ol x c.vol < 0 then (x, refuse 7)
  else if (x.vols.getD (ol x c.vol).toNat default).phase ≠ 1 then (x, refuse 9)
  else if c.n = 0 ∨ (x.vols.getD (ol x c.vol).toNat default).used < c.off + c.n then (x, refuse 1)
  else if u7 x c.name < 0 ∧ 64 ≤ x.names.length then (x, refuse 5)
  else (⟨ql x.vols (ol x c.vol) (aa6 (x.vols.getD (ol x c.vol).toNat default) c), adj x c, x.last⟩, ⟨0, 0, 0, 0, 0, decide (0 ≤ u7 x c.name)⟩)
def afs (x : Ix) (c : Cm) : Ix × Rp :=
  if (uu c.region c.mate).2 ≠ 0 then (x, refuse 1)
  else if 48 ≤ x.vols.length then (x, refuse 5)
  else (⟨ql x.vols (-1) ⟨x.vols.length + 1, c.region, c.mate, 0, 1, [], [], 0, 0⟩, x.names, x.last⟩, ⟨0, x.vols.length + 1, 0, 0, 0, false⟩)
def aer (x : Ix) (i : Int) (v : Vl) : Ix := ⟨ql x.vols i v, x.names, x.last⟩
def ahr (x : Ix) (c : Cm) (i : Int) (v : Vl) : Ix × Rp :=
  if v.phase ≠ 1 then (x, refuse 9) else if c.n < 1 ∨ 32 < c.n then (x, refuse 4) else if 160 - c.n < v.used then (x, refuse 5)
  else (aer x i ⟨v.id, v.home, v.mate, w64 (v.used + c.n), v.phase, v.parts, v.places, v.pair, v.sum⟩, ⟨0, v.id, v.used, c.n, 0, false⟩)
def aga (x : Ix) (c : Cm) (i : Int) (v : Vl) : Ix × Rp :=
  if v.phase ≠ 1 then (x, refuse 9) else (aer x i ⟨v.id, v.home, v.mate, v.used, 2, v.parts, v.places, v.pair, v.sum⟩, ⟨0, v.id, 0, 0, 0, false⟩)
def afr (x : Ix) (c : Cm) (i : Int) (v : Vl) : Ix × Rp :=
  if v.phase ≠ 2 then (x, refuse 9) else if zw c.places v.home = false then (x, refuse 1)
  else (aer x i ⟨v.id, v.home, v.mate, v.used, 3, v.parts, c.places, v.pair, v.sum⟩, ⟨0, v.id, 0, 0, 0, false⟩)
def ach (x : Ix) (c : Cm) (i : Int) (v : Vl) : Ix × Rp :=
  if v.phase < 3 then (x, refuse 9)
  else if (v.places.length : Int) ≤ c.idx ∨ c.places.length ≠ 1 ∨ (c.places.getD 0 default).1 ≠ v.home then (x, refuse 1)
  else if v.places.any (fun p => decide (p = c.places.getD 0 default)) = true then (x, refuse 1)
  else (aer x i ⟨v.id, v.home, v.mate, v.used, v.phase, v.parts, v.places.set c.idx.toNat (c.places.getD 0 default), v.pair, v.sum⟩, ⟨0, v.id, 0, c.idx, 0, false⟩)
def aje (x : Ix) (c : Cm) : Ix × Rp :=
  if ol x c.vol < 0 then (x, refuse 7)
  else if c.kind = 2 then ahr x c (ol x c.vol) (x.vols.getD (ol x c.vol).toNat default)
  else if c.kind = 6 then aga x c (ol x c.vol) (x.vols.getD (ol x c.vol).toNat default)
  else if c.kind = 7 then afr x c (ol x c.vol) (x.vols.getD (ol x c.vol).toNat default)
  else ach x c (ol x c.vol) (x.vols.getD (ol x c.vol).toNat default)
def vz (x : Ix) (c : Cm) : Ix × Rp :=
  if c.kind = 1 then afs x c else if c.kind = 3 then aco x c else if c.kind = 4 then aas x c else if c.kind = 5 then aas x c else if c.kind = 8 then ae3 x c else aje x c
structure OkI (x : Ix) : Prop where
  vols : x.vols.length ≤ 1048575
  names : x.names.length ≤ 1048575
  last : x.last.length ≤ 1048575
  parts : ∀ v ∈ x.vols, v.parts.length ≤ 1048576
  places : ∀ v ∈ x.vols, v.places.length ≤ 1048576
def uw (x : Ix) (client : Int) : Int := qc (fun s : Ss => s.client == client) x.last
def az8 (s : Ss) : Rp := ⟨s.err, s.vol, s.off, s.n, s.sum, s.found⟩
def akl (c : Cm) (r : Rp) : Ss := ⟨c.client, c.seq, r.err, r.vol, r.off, r.n, r.sum, r.found⟩
def doX (x : Ix) (c : Cm) : Ix × Rp :=
  if vk c = false then (x, refuse 1)
  else if 0 < c.client ∧ 0 ≤ uw x c.client ∧ (x.last.getD (uw x c.client).toNat default).seq = c.seq then (x, az8 (x.last.getD (uw x c.client).toNat default))
  else if 0 < c.client ∧ 0 ≤ uw x c.client ∧ c.seq < (x.last.getD (uw x c.client).toNat default).seq then (x, refuse 9)
  else if 0 < c.client then (⟨(vz x c).1.vols, (vz x c).1.names, ql (vz x c).1.last (uw x c.client) (akl c (vz x c).2)⟩, (vz x c).2)
  else vz x c
theorem ajn {c : Cm} (h : vk c = true) : (0 ≤ c.client ∧ c.client ≤ 16) ∧ (0 ≤ c.off ∧ c.off ≤ 1048576) ∧ (0 ≤ c.n ∧ c.n ≤ 1048576) ∧ (0 ≤ c.idx ∧ c.idx ≤ 1048576) ∧ c.places.length ≤ 14 := by
  unfold vk af3 at h
  simp only [Bool.and_eq_true, si, decide_eq_true_eq] at h
  omega
theorem aq8 (x : Ix) (c : Cm) : (aco x c).1.last = x.last := by
  unfold aco; repeat' split
  all_goals rfl
theorem aiw (x : Ix) (c : Cm) : (aas x c).1.last = x.last := by
  unfold aas; repeat' split
  all_goals rfl
theorem ap0 (x : Ix) (c : Cm) : (ae3 x c).1.last = x.last := by
  unfold ae3; dsimp only; repeat' split
  all_goals rfl
theorem ae5 (x : Ix) (c : Cm) : (vz x c).1.last = x.last := by
  unfold vz
  split
  · unfold afs; repeat' split
    all_goals rfl
  split
  · exact aq8 x c
  split
  · exact aiw x c
  split
  · exact aiw x c
  split
  · exact ap0 x c
  unfold aje
  split
  · rfl
  split
  · unfold ahr; repeat' split
    all_goals rfl
  split
  · unfold aga; repeat' split
    all_goals rfl
  split
  · unfold afr; repeat' split
    all_goals rfl
  unfold ach; repeat' split
  all_goals rfl
structure OkB (B : Nat) (x : Ix) : Prop where
  vols : x.vols.length ≤ B
  names : x.names.length ≤ B
  last : x.last.length ≤ B
  parts : ∀ v ∈ x.vols, v.parts.length ≤ B
  places : ∀ v ∈ x.vols, v.places.length ≤ B
theorem OkB.ok {B : Nat} {x : Ix} (h : OkB B x) (hB : B ≤ 1048575) : OkI x :=
  ⟨Nat.le_trans h.vols hB, Nat.le_trans h.names hB, Nat.le_trans h.last hB, fun v hv => by have := h.parts v hv; omega, fun v hv => by have := h.places v hv; omega⟩
theorem OkB.up {B B' : Nat} {x : Ix} (h : OkB B x) (hB : B ≤ B') : OkB B' x :=
  ⟨Nat.le_trans h.vols hB, Nat.le_trans h.names hB, Nat.le_trans h.last hB, fun v hv => Nat.le_trans (h.parts v hv) hB, fun v hv => Nat.le_trans (h.places v hv) hB⟩
theorem afj {α : Type} {l : List α} {i : Int} {v y : α} (h : y ∈ ql l i v) : y = v ∨ y ∈ l := by
  unfold ql at h
  split at h
  · rcases List.mem_append.1 h with h | h
    · exact .inr h
    · exact .inl (List.mem_singleton.1 h)
  · exact (List.mem_or_eq_of_mem_set h).symm
theorem OkB.set {B : Nat} {x : Ix} {i : Int} {v : Vl} {ns : List Nm} {ls : List Ss} (h : OkB B x) (hp : v.parts.length ≤ B + 1) (hq : v.places.length ≤ B + 1) (hn : ns.length ≤ B + 1) (hls : ls.length ≤ B + 1) : OkB (B + 1) ⟨ql x.vols i v, ns, ls⟩ := by
  refine ⟨?_, hn, hls, fun y hy => ?_, fun y hy => ?_⟩
  · have := aeb x.vols i v; have := h.vols; dsimp only; omega
  · rcases afj hy with e | e
    · rw [e]; exact hp
    · have := h.parts y e; omega
  · rcases afj hy with e | e
    · rw [e]; exact hq
    · have := h.places y e; omega
theorem OkB.at {B : Nat} {x : Ix} (h : OkB B x) (i : Nat) : (x.vols.getD i default).parts.length ≤ B ∧ (x.vols.getD i default).places.length ≤ B := by
  by_cases hi : i < x.vols.length
  · exact ⟨h.parts _ (uq hi), h.places _ (uq hi)⟩
  · rw [List.getD_eq_getElem?_getD, List.getElem?_eq_none (by omega)]
    exact ⟨Nat.zero_le _, Nat.zero_le _⟩
theorem at6 (x : Ix) (c : Cm) : (adj x c).length ≤ x.names.length + 1 := by
  unfold adj
  split
  · rw [List.length_set]; omega
  · rw [alx]; exact Nat.le_refl _
theorem asj {B : Nat} {x : Ix} {c : Cm} (h : OkB B x) (hB : 14 ≤ B) (hc : c.places.length ≤ 14) : OkB (B + 3) (vz x c).1 := by
  have u2 : OkB (B + 3) x := h.up (by omega)
  have hn := h.names
  have hls := h.last
  have set1 : ∀ (i : Int) (v : Vl), v.parts.length ≤ B + 1 → v.places.length ≤ B + 1 → OkB (B + 3) ⟨ql x.vols i v, x.names, x.last⟩ := fun i v hp hq => (h.set (i := i) hp hq (ns := x.names) (ls := x.last) (by omega) (by omega)).up (by omega)
  unfold vz
  split
  · unfold afs
    split
    · exact u2
    split
    · exact u2
    · exact set1 _ _ (Nat.zero_le _) (Nat.zero_le _)
  split
  · unfold aco
    split
    · exact u2
    split
    · exact u2
    split
    · exact u2
    split
    · exact u2
    split
    · exact u2
    · have hp := at6 x c
      have ha := h.at (ol x c.vol).toNat
      exact (h.set (i := ol x c.vol) (v := aa6 (x.vols.getD (ol x c.vol).toNat default) c) (ns := adj x c) (ls := x.last) (by simp only [aa6, List.length_append, List.length_cons, List.length_nil]; omega) (by simp only [aa6]; omega) (by omega) (by omega)).up (by omega)
  have hnam : OkB (B + 3) (aas x c).1 := by
    unfold aas
    split
    · exact u2
    split
    · exact u2
    · refine ⟨u2.vols, ?_, u2.last, u2.parts, u2.places⟩
      simp only [List.length_append, List.length_take, List.length_drop]; omega
  split
  · exact hnam
  split
  · exact hnam
  split
  · unfold ae3
    dsimp only
    split
    · exact u2
    split
    · exact u2
    split
    · exact u2
    split
    · exact u2
    · have ha := h.at (ol x c.vol).toNat
      have hb := h.at (ol x c.mate).toNat
      generalize x.vols.getD (ol x c.vol).toNat default = a at *
      generalize x.vols.getD (ol x c.mate).toNat default = b at *
      have s1 := aeb x.vols (ol x c.vol) (aaa a b)
      have e1 : ∀ y ∈ ql x.vols (ol x c.vol) (aaa a b), y.parts.length ≤ B ∧ y.places.length ≤ B := fun y hy => by
        rcases afj hy with e | e
        · rw [e]; exact ha
        · exact ⟨h.parts y e, h.places y e⟩
      have e2 : ∀ y ∈ ql (ql x.vols (ol x c.vol) (aaa a b)) (ol x c.mate) (aaw a b), y.parts.length ≤ B ∧ y.places.length ≤ B := fun y hy => by
        rcases afj hy with e | e
        · rw [e]; exact hb
        · exact e1 y e
      have s2 := aeb (ql x.vols (ol x c.vol) (aaa a b)) (ol x c.mate) (aaw a b)
      have s3 := aeb (ql (ql x.vols (ol x c.vol) (aaa a b)) (ol x c.mate) (aaw a b)) (-1) (aan (uu a.home b.home).1 a b c.places)
      have e3 : ∀ y ∈ ql (ql (ql x.vols (ol x c.vol) (aaa a b)) (ol x c.mate) (aaw a b)) (-1) (aan (uu a.home b.home).1 a b c.places), y.parts.length ≤ B ∧ y.places.length ≤ B := fun y hy => by
        rcases afj hy with e | e
        · rw [e]; exact ⟨Nat.zero_le _, Nat.le_trans hc hB⟩
        · exact e2 y e
      have hv := h.vols
      exact ⟨by dsimp only; omega, by dsimp only; omega, by dsimp only; omega, fun y hy => by have := (e3 y hy).1; omega, fun y hy => by have := (e3 y hy).2; omega⟩
  unfold aje
  split
  · exact u2
  have ha := h.at (ol x c.vol).toNat
  split
  · unfold ahr
    split
    · exact u2
    split
    · exact u2
    split
    · exact u2
    · exact set1 _ _ (by dsimp only; omega) (by dsimp only; omega)
  split
  · unfold aga
    split
    · exact u2
    · exact set1 _ _ (by dsimp only; omega) (by dsimp only; omega)
  split
  · unfold afr
    split
    · exact u2
    split
    · exact u2
    · exact set1 _ _ (by dsimp only; omega) (by dsimp only; omega)
  · unfold ach
    split
    · exact u2
    split
    · exact u2
    split
    · exact u2
    · exact set1 _ _ (by dsimp only; omega) (by dsimp only; rw [List.length_set]; omega)
theorem awh {B : Nat} {x : Ix} {c : Cm} (h : OkB B x) (hB : 14 ≤ B) : OkB (B + 4) (doX x c).1 := by
  have u4 : OkB (B + 4) x := h.up (by omega)
  unfold doX
  split
  · exact u4
  rename_i hm
  have hm' : vk c = true := by simpa using hm
  have hd := asj (c := c) h hB (ajn hm').2.2.2.2
  split
  · exact u4
  split
  · exact u4
  split
  · have hl := aeb (vz x c).1.last (uw x c.client) (akl c (vz x c).2)
    have hl2 := hd.last
    exact ⟨by have := hd.vols; dsimp only; omega, by have := hd.names; dsimp only; omega, by dsimp only; omega, fun v hv => by have := hd.parts v hv; omega, fun v hv => by have := hd.places v hv; omega⟩
  · exact hd.up (by omega)
end Go.Proofs.Ytbpjaiemlkcccaa.Pv
end
section
/- A command changes no name but its own. -/
namespace Go.Proofs.Ytbpjaiemlkcccaa.Pv
open Go
set_option maxRecDepth 100000
theorem amo {α : Type} [Inhabited α] (p : α → Bool) (xs : List α) : abq p xs = (xs.find? p).getD default ∧ decide (0 ≤ qc p xs) = (xs.find? p).isSome := by
  rcases abg p xs with ⟨e, h⟩ | ⟨q, y, e1, e2, e3, e4⟩
  · have hf : xs.find? p = none := List.find?_eq_none.2 fun x hx => by rw [h x hx]; decide
    rw [hf]
    unfold abq
    rw [e]
    exact ⟨if_pos (by omega), rfl⟩
  · have hq := (List.getElem?_eq_some_iff.1 e2).1
    have hf : xs.find? p = some y := by
      rw [List.find?_eq_some_iff_getElem]
      refine ⟨e3, q, hq, ?_, fun j hj => ?_⟩
      · have := List.getElem?_eq_getElem hq; rw [e2] at this; exact (Option.some.inj this).symm
      · rw [e4 j _ hj (List.getElem?_eq_getElem (by omega))]; rfl
    rw [hf]
    unfold abq
    rw [e1]
    refine ⟨?_, by rw [decide_eq_true (by omega)]; rfl⟩
    rw [if_neg (by omega), Int.toNat_natCast, List.getD_eq_getElem?_getD, e2]
end Go.Proofs.Ytbpjaiemlkcccaa.Pv
end
