
/- Indexes in the program itself: the first one of which something holds; names, sessions; refusals; which commands may be. -/
import Derived.Test.YtbpjaiemlkcccaaLibK0
namespace Go.Proofs.Ytbpjaiemlkcccaa.Pv
open Go
set_option linter.unusedVariables false
set_option linter.unusedSimpArgs false
set_option maxRecDepth 100000


theorem ajs {g : FuncId} {caps : List PV} (p : Nm → Bool) (xs : List (Nm)) (hl : xs.length ≤ 9223372036854775807) (σ : Sto) (hg : jd Try.prog g) (hf : ∀ x ∈ xs, jo Try.prog g (nm x :: caps) σ fun r σ' => r = .bool (p x) ∧ σ' = σ) (htup : (caps.all fun p => !p.isTup) = true) :
    jo Try.prog 103 [.sl .sh 5 (xs.map nm), .fn (.func g) [] caps] σ fun x σ' => x = .int .i64 (qc p xs) ∧ σ' = σ := by
  refine ny tab Try.func103 rfl (nlb rfl) (by decide) fun hso => ?_
  repeat' (first | (apply bn; (first | (apply bv; (apply bu (tt := tt); (focus (conv => lhs; whnf); try exact rfl); exact rfl)) | (apply ai; (apply az (tt := tt); (focus (conv => lhs; whnf); try exact rfl); exact rfl)) | (apply jr; (apply ni tab; (focus (conv => lhs; whnf; arg 1; whnf; arg 2; whnf); try exact rfl); (exact trivial); exact rfl)) | (apply ak))) | (apply bq; (first | (apply bg) | (apply ah) | (apply ed))) | (apply bf))
  refine ve (fun i : Nat => [(0, .sl .sh 5 (xs.map nm)), (1, .fn (.func g) [] caps), (7, .int .i64 xs.length), (8, .int .i64 i)]) (fun _ => σ) (fun i => i ≤ xs.length ∧ ∀ j, j < i → p (xs.getD j default) = false) (fun i => xs.length - i) 0 ⟨Nat.zero_le _, fun j hj => by omega⟩ ?_ rfl ?_
  · (repeat' (first | exact trivial | exact Wk.same _ | (refine Wk.eq ?_; (conv => rhs; whnf); simp <;> fail) | refine ⟨?_, ?_⟩))
  rintro i ⟨hi, hno⟩
  rcases Nat.lt_or_ge i xs.length with hlt | hge
  · have c1 : decide ((i : Int) < (xs.length : Int)) = true := by simp; omega
    repeat' (first | (apply bn; (first | (apply bv; (apply bu (tt := tt); (focus (conv => lhs; whnf); try exact rfl); exact rfl)) | (apply ai; (apply az (tt := tt); (focus (conv => lhs; whnf); try exact rfl); exact rfl)) | (apply dw; (apply di true tab; (focus (conv => lhs; whnf; arg 1; whnf; arg 2; whnf); try exact rfl); (exact trivial); exact rfl)) | (apply fq; (apply ou tab; (focus (conv => lhs; whnf; arg 1; whnf; arg 2; whnf); try skip); (exact nlb rfl); exact rfl)) | (apply j5; (refine lw (tI := 3) _ tab rfl (by (focus (conv => lhs; whnf); try exact rfl)) (by (focus (conv => lhs; whnf); try exact rfl)) rfl (by (omega)) (by (omega)) (by (focus (conv => lhs; whnf); try exact rfl)) (ltn rfl) ?_)) | (apply ak))) | (apply bq; (first | (apply bg) | (apply ah) | (apply df; exact rfl; (assumption)) | (apply gz) | (apply ed))) | (apply bf))
    refine adh (tt := tt) hg (hf _ (uq hlt)) rfl rfl rfl (by simpa [PV.isTup, nm] using htup) rfl ?_
    repeat' (first | (apply bn; (first | (apply bv; (apply bu (tt := tt); (focus (conv => lhs; whnf); try exact rfl); exact rfl)) | (apply ai; (apply az (tt := tt); (focus (conv => lhs; whnf); try exact rfl); exact rfl)) | (apply dw; (apply di true tab; (focus (conv => lhs; whnf; arg 1; whnf; arg 2; whnf); try exact rfl); (simp only [InR]; omega); exact rfl)) | (apply ak))) | (apply bq; (first | (apply bg) | (apply ah) | (apply qo; exact (rfl : _ = PV.bool _); all_goals intro hb) | (apply gz) | (apply dn))) | (apply bf) | (apply lq) | (apply ng) | (apply om))
    · (change gu _ _ _ _ _ _ _; apply fu; (exact .inr rfl); (focus (repeat' (first | (apply lc; (focus (conv => lhs; whnf); try exact rfl); (exact Wk.same _)) | exact iq))); exact rfl; (exact (List.append_nil _).symm); exact Nat.le_refl _; (focus (repeat' (first | exact trivial | refine ⟨?_, ?_⟩))); exact hso)
      exact ⟨by rw [aay hlt hno hb]; rfl, rfl⟩
    · refine ⟨i + 1, ⟨by omega, fun j hj => ?_⟩, by omega, ?_, rfl⟩
      · by_cases e : j = i
        · subst e; exact hb
        · exact hno j (by omega)
      · (repeat' (first | exact trivial | exact Wk.same _ | refine ⟨?_, ?_⟩))
  · have c1 : decide ((i : Int) < (xs.length : Int)) = false := by simp; omega
    repeat' (first | (apply bn; (first | (apply ai; (apply az (tt := tt); (focus (conv => lhs; whnf); try exact rfl); exact rfl)) | (apply dw; (apply di true tab; (focus (conv => lhs; whnf; arg 1; whnf; arg 2; whnf); try exact rfl); (exact trivial); exact rfl)) | (apply ak))) | (apply bq; (first | (apply bg) | (apply ah) | (apply dm; exact rfl; (assumption)) | (apply dn) | (apply oo))) | (apply bf) | (apply o9) | (apply pg))
    (change gu _ _ _ _ _ _ _; apply fu; (exact .inr rfl); (focus (repeat' (first | (apply lc; (focus (conv => lhs; whnf); try exact rfl); (exact Wk.same _)) | exact iq))); exact rfl; (exact (List.append_nil _).symm); exact Nat.le_refl _; (focus (repeat' (first | exact trivial | refine ⟨?_, ?_⟩))); exact hso)
    exact ⟨by rw [acs fun j hj => hno j (by omega)]; rfl, rfl⟩


theorem ajq {g : FuncId} {caps : List PV} (p : Ss → Bool) (xs : List (Ss)) (hl : xs.length ≤ 9223372036854775807) (σ : Sto) (hg : jd Try.prog g) (hf : ∀ x ∈ xs, jo Try.prog g (ss x :: caps) σ fun r σ' => r = .bool (p x) ∧ σ' = σ) (htup : (caps.all fun p => !p.isTup) = true) :
    jo Try.prog 60 [.sl .sh 8 (xs.map ss), .fn (.func g) [] caps] σ fun x σ' => x = .int .i64 (qc p xs) ∧ σ' = σ := by
  refine ny tab Try.func60 rfl (nlb rfl) (by decide) fun hso => ?_
  repeat' (first | (apply bn; (first | (apply bv; (apply bu (tt := tt); (focus (conv => lhs; whnf); try exact rfl); exact rfl)) | (apply ai; (apply az (tt := tt); (focus (conv => lhs; whnf); try exact rfl); exact rfl)) | (apply jr; (apply ni tab; (focus (conv => lhs; whnf; arg 1; whnf; arg 2; whnf); try exact rfl); (exact trivial); exact rfl)) | (apply ak))) | (apply bq; (first | (apply bg) | (apply ah) | (apply ed))) | (apply bf))
  refine ve (fun i : Nat => [(0, .sl .sh 8 (xs.map ss)), (1, .fn (.func g) [] caps), (7, .int .i64 xs.length), (8, .int .i64 i)]) (fun _ => σ) (fun i => i ≤ xs.length ∧ ∀ j, j < i → p (xs.getD j default) = false) (fun i => xs.length - i) 0 ⟨Nat.zero_le _, fun j hj => by omega⟩ ?_ rfl ?_
  · (repeat' (first | exact trivial | exact Wk.same _ | (refine Wk.eq ?_; (conv => rhs; whnf); simp <;> fail) | refine ⟨?_, ?_⟩))
  rintro i ⟨hi, hno⟩
  rcases Nat.lt_or_ge i xs.length with hlt | hge
  · have c1 : decide ((i : Int) < (xs.length : Int)) = true := by simp; omega
    repeat' (first | (apply bn; (first | (apply bv; (apply bu (tt := tt); (focus (conv => lhs; whnf); try exact rfl); exact rfl)) | (apply ai; (apply az (tt := tt); (focus (conv => lhs; whnf); try exact rfl); exact rfl)) | (apply dw; (apply di true tab; (focus (conv => lhs; whnf; arg 1; whnf; arg 2; whnf); try exact rfl); (exact trivial); exact rfl)) | (apply fq; (apply ou tab; (focus (conv => lhs; whnf; arg 1; whnf; arg 2; whnf); try skip); (exact nlb rfl); exact rfl)) | (apply j5; (refine lw (tI := 3) _ tab rfl (by (focus (conv => lhs; whnf); try exact rfl)) (by (focus (conv => lhs; whnf); try exact rfl)) rfl (by (omega)) (by (omega)) (by (focus (conv => lhs; whnf); try exact rfl)) (ltn rfl) ?_)) | (apply ak))) | (apply bq; (first | (apply bg) | (apply ah) | (apply df; exact rfl; (assumption)) | (apply gz) | (apply ed))) | (apply bf))
    refine adh (tt := tt) hg (hf _ (uq hlt)) rfl rfl rfl (by simpa [PV.isTup, ss] using htup) rfl ?_
    repeat' (first | (apply bn; (first | (apply bv; (apply bu (tt := tt); (focus (conv => lhs; whnf); try exact rfl); exact rfl)) | (apply ai; (apply az (tt := tt); (focus (conv => lhs; whnf); try exact rfl); exact rfl)) | (apply dw; (apply di true tab; (focus (conv => lhs; whnf; arg 1; whnf; arg 2; whnf); try exact rfl); (simp only [InR]; omega); exact rfl)) | (apply ak))) | (apply bq; (first | (apply bg) | (apply ah) | (apply qo; exact (rfl : _ = PV.bool _); all_goals intro hb) | (apply gz) | (apply dn))) | (apply bf) | (apply lq) | (apply ng) | (apply om))
    · (change gu _ _ _ _ _ _ _; apply fu; (exact .inr rfl); (focus (repeat' (first | (apply lc; (focus (conv => lhs; whnf); try exact rfl); (exact Wk.same _)) | exact iq))); exact rfl; (exact (List.append_nil _).symm); exact Nat.le_refl _; (focus (repeat' (first | exact trivial | refine ⟨?_, ?_⟩))); exact hso)
      exact ⟨by rw [aay hlt hno hb]; rfl, rfl⟩
    · refine ⟨i + 1, ⟨by omega, fun j hj => ?_⟩, by omega, ?_, rfl⟩
      · by_cases e : j = i
        · subst e; exact hb
        · exact hno j (by omega)
      · (repeat' (first | exact trivial | exact Wk.same _ | refine ⟨?_, ?_⟩))
  · have c1 : decide ((i : Int) < (xs.length : Int)) = false := by simp; omega
    repeat' (first | (apply bn; (first | (apply ai; (apply az (tt := tt); (focus (conv => lhs; whnf); try exact rfl); exact rfl)) | (apply dw; (apply di true tab; (focus (conv => lhs; whnf; arg 1; whnf; arg 2; whnf); try exact rfl); (exact trivial); exact rfl)) | (apply ak))) | (apply bq; (first | (apply bg) | (apply ah) | (apply dm; exact rfl; (assumption)) | (apply dn) | (apply oo))) | (apply bf) | (apply o9) | (apply pg))
    (change gu _ _ _ _ _ _ _; apply fu; (exact .inr rfl); (focus (repeat' (first | (apply lc; (focus (conv => lhs; whnf); try exact rfl); (exact Wk.same _)) | exact iq))); exact rfl; (exact (List.append_nil _).symm); exact Nat.le_refl _; (focus (repeat' (first | exact trivial | refine ⟨?_, ?_⟩))); exact hso)
    exact ⟨by rw [acs fun j hj => hno j (by omega)]; rfl, rfl⟩

theorem ahf {g : FuncId} {caps : List PV} (p : Nm → Bool) (xs : List Nm) (hl : xs.length ≤ 1048576) (σ : Sto) (hg : jd Try.prog g) (hf : ∀ ex : Sto, ∀ x ∈ xs, jo Try.prog g (nm x :: caps) (σ ++ ex) fun r σ' => r = .bool (p x) ∧ σ' = σ ++ ex) (htup : (caps.all fun p => !p.isTup) = true) :
    jo Try.prog 89 [.sl .sh 5 (xs.map nm), .fn (.func g) [] caps] σ fun x σ' => x = .tup [nm (abq p xs), .int .i64 (qc p xs)] ∧ σ' = σ := by
  refine ny tab Try.func89 rfl (nlb rfl) (by decide) fun hso => oh ?_
  repeat' (first | (apply bn; (first | (apply bv; (apply bu (tt := tt); (focus (conv => lhs; whnf); try exact rfl); exact rfl)) | (apply ai; (apply az (tt := tt); (focus (conv => lhs; whnf); try exact rfl); exact rfl)) | (apply je; (apply ik tab; exact rfl; exact rfl; (exact (rfl : _ = 0)); exact rfl)) | (apply ak))) | (apply bq; (first | (apply bg) | (apply ah))) | (apply bf))
  refine cz (tt := tt) awz (ajs p xs (by omega) _ hg (hf _) htup) rfl rfl rfl rfl rfl ?_
  by_cases h : qc p xs < 0
  · have c1 : decide (qc p xs < 0) = true := decide_eq_true h
    have e1 : abq p xs = default := if_pos h
    rw [e1, aeg h]
    rw [aeg h] at c1
    repeat' (first | (apply bn; (first | (apply bv; (apply bu (tt := tt); (focus (conv => lhs; whnf); try exact rfl); exact rfl)) | (apply ai; (apply az (tt := tt); (focus (conv => lhs; whnf); try exact rfl); exact rfl)) | (apply dw; (apply di true tab; (focus (conv => lhs; whnf; arg 1; whnf; arg 2; whnf); try exact rfl); (exact trivial); exact rfl)) | (apply fq; (apply aa; (apply aj tab; exact rfl; exact rfl; exact rfl; (focus (conv => lhs; whnf; arg 1; whnf; arg 2; whnf); try skip); (exact nlb rfl)); (intro c h; cases h); exact rfl)) | (apply gq; (apply dz tab; exact rfl; exact rfl; exact rfl; exact rfl; exact rfl; exact rfl; exact rfl; exact rfl)) | (apply je; (apply ik tab; exact rfl; exact rfl; (exact (rfl : _ = 1)); exact rfl)) | (apply ak))) | (apply bq; (first | (apply bg) | (apply ah) | (apply df; exact rfl; (exact rfl)) | (apply dn))) | (apply bf) | (apply lq))
    (change gu _ _ _ _ _ _ _; apply fu; (exact .inr rfl); (focus (repeat' (first | (apply lc; (focus (conv => lhs; whnf); try exact rfl); (exact Wk.same _)) | (apply mr; exact rfl; exact rfl; exact rfl; (focus (conv => lhs; whnf; arg 1; whnf; arg 2; whnf); try skip); (exact nlb rfl)) | exact iq))); exact rfl; (exact rfl); exact Nat.le_refl _; (focus (repeat' (first | exact trivial | refine ⟨?_, ?_⟩))); exact hso)
    exact ⟨rfl, rfl⟩
  · have c1 : decide (qc p xs < 0) = false := decide_eq_false h
    have e1 : abq p xs = xs.getD (qc p xs).toNat default := if_neg h
    have hlt := x9 (p := p) (xs := xs) (by omega)
    have h0 : 0 ≤ qc p xs := by omega
    rw [e1]
    generalize qc p xs = q at *
    repeat' (first | (apply bn; (first | (apply bv; (apply bu (tt := tt); (focus (conv => lhs; whnf); try exact rfl); exact rfl)) | (apply ai; (apply az (tt := tt); (focus (conv => lhs; whnf); try exact rfl); exact rfl)) | (apply dw; (apply di true tab; (focus (conv => lhs; whnf; arg 1; whnf; arg 2; whnf); try exact rfl); (exact trivial); exact rfl)) | (apply fq; (apply ou tab; (focus (conv => lhs; whnf; arg 1; whnf; arg 2; whnf); try skip); (exact nlb rfl); exact rfl)) | (apply j5; (refine lw (tI := 3) _ tab rfl (by (focus (conv => lhs; whnf); try exact rfl)) (by (focus (conv => lhs; whnf); try exact rfl)) rfl (by (omega)) (by (omega)) (by (focus (conv => lhs; whnf); try exact rfl)) (ltn rfl) ?_)) | (apply gq; (apply dz tab; exact rfl; exact rfl; exact rfl; exact rfl; exact rfl; exact rfl; exact rfl; exact rfl)) | (apply ak))) | (apply bq; (first | (apply bg) | (apply ah) | (apply dm; exact rfl; (assumption)) | (apply gz) | (apply dn))) | (apply bf))
    (change gu _ _ _ _ _ _ _; apply fu; (exact .inr rfl); (focus (repeat' (first | (apply lc; (focus (conv => lhs; whnf); try exact rfl); (exact Wk.same _)) | (apply mr; exact rfl; exact rfl; exact rfl; (focus (conv => lhs; whnf; arg 1; whnf; arg 2; whnf); try skip); (exact nlb rfl)) | exact iq))); exact rfl; (exact rfl); exact Nat.le_refl _; (focus (repeat' (first | exact trivial | refine ⟨?_, ?_⟩))); exact hso)
    exact ⟨rfl, rfl⟩

theorem agw {g : FuncId} {caps : List PV} (p : Ss → Bool) (xs : List Ss) (hl : xs.length ≤ 1048576) (σ : Sto) (hg : jd Try.prog g) (hf : ∀ ex : Sto, ∀ x ∈ xs, jo Try.prog g (ss x :: caps) (σ ++ ex) fun r σ' => r = .bool (p x) ∧ σ' = σ ++ ex) (htup : (caps.all fun p => !p.isTup) = true) :
    jo Try.prog 44 [.sl .sh 8 (xs.map ss), .fn (.func g) [] caps] σ fun x σ' => x = .tup [ss (abq p xs), .int .i64 (qc p xs)] ∧ σ' = σ := by
  refine ny tab Try.func44 rfl (nlb rfl) (by decide) fun hso => oh ?_
  repeat' (first | (apply bn; (first | (apply bv; (apply bu (tt := tt); (focus (conv => lhs; whnf); try exact rfl); exact rfl)) | (apply ai; (apply az (tt := tt); (focus (conv => lhs; whnf); try exact rfl); exact rfl)) | (apply je; (apply ik tab; exact rfl; exact rfl; (exact (rfl : _ = 0)); exact rfl)) | (apply ak))) | (apply bq; (first | (apply bg) | (apply ah))) | (apply bf))
  refine cz (tt := tt) ayp (ajq p xs (by omega) _ hg (hf _) htup) rfl rfl rfl rfl rfl ?_
  by_cases h : qc p xs < 0
  · have c1 : decide (qc p xs < 0) = true := decide_eq_true h
    have e1 : abq p xs = default := if_pos h
    rw [e1, aeg h]
    rw [aeg h] at c1
    repeat' (first | (apply bn; (first | (apply bv; (apply bu (tt := tt); (focus (conv => lhs; whnf); try exact rfl); exact rfl)) | (apply ai; (apply az (tt := tt); (focus (conv => lhs; whnf); try exact rfl); exact rfl)) | (apply dw; (apply di true tab; (focus (conv => lhs; whnf; arg 1; whnf; arg 2; whnf); try exact rfl); (exact trivial); exact rfl)) | (apply fq; (apply aa; (apply aj tab; exact rfl; exact rfl; exact rfl; (focus (conv => lhs; whnf; arg 1; whnf; arg 2; whnf); try skip); (exact nlb rfl)); (intro c h; cases h); exact rfl)) | (apply gq; (apply dz tab; exact rfl; exact rfl; exact rfl; exact rfl; exact rfl; exact rfl; exact rfl; exact rfl)) | (apply je; (apply ik tab; exact rfl; exact rfl; (exact (rfl : _ = 1)); exact rfl)) | (apply ak))) | (apply bq; (first | (apply bg) | (apply ah) | (apply df; exact rfl; (exact rfl)) | (apply dn))) | (apply bf) | (apply lq))
    (change gu _ _ _ _ _ _ _; apply fu; (exact .inr rfl); (focus (repeat' (first | (apply lc; (focus (conv => lhs; whnf); try exact rfl); (exact Wk.same _)) | (apply mr; exact rfl; exact rfl; exact rfl; (focus (conv => lhs; whnf; arg 1; whnf; arg 2; whnf); try skip); (exact nlb rfl)) | exact iq))); exact rfl; (exact rfl); exact Nat.le_refl _; (focus (repeat' (first | exact trivial | refine ⟨?_, ?_⟩))); exact hso)
    exact ⟨rfl, rfl⟩
  · have c1 : decide (qc p xs < 0) = false := decide_eq_false h
    have e1 : abq p xs = xs.getD (qc p xs).toNat default := if_neg h
    have hlt := x9 (p := p) (xs := xs) (by omega)
    have h0 : 0 ≤ qc p xs := by omega
    rw [e1]
    generalize qc p xs = q at *
    repeat' (first | (apply bn; (first | (apply bv; (apply bu (tt := tt); (focus (conv => lhs; whnf); try exact rfl); exact rfl)) | (apply ai; (apply az (tt := tt); (focus (conv => lhs; whnf); try exact rfl); exact rfl)) | (apply dw; (apply di true tab; (focus (conv => lhs; whnf; arg 1; whnf; arg 2; whnf); try exact rfl); (exact trivial); exact rfl)) | (apply fq; (apply ou tab; (focus (conv => lhs; whnf; arg 1; whnf; arg 2; whnf); try skip); (exact nlb rfl); exact rfl)) | (apply j5; (refine lw (tI := 3) _ tab rfl (by (focus (conv => lhs; whnf); try exact rfl)) (by (focus (conv => lhs; whnf); try exact rfl)) rfl (by (omega)) (by (omega)) (by (focus (conv => lhs; whnf); try exact rfl)) (ltn rfl) ?_)) | (apply gq; (apply dz tab; exact rfl; exact rfl; exact rfl; exact rfl; exact rfl; exact rfl; exact rfl; exact rfl)) | (apply ak))) | (apply bq; (first | (apply bg) | (apply ah) | (apply dm; exact rfl; (assumption)) | (apply gz) | (apply dn))) | (apply bf))
    (change gu _ _ _ _ _ _ _; apply fu; (exact .inr rfl); (focus (repeat' (first | (apply lc; (focus (conv => lhs; whnf); try exact rfl); (exact Wk.same _)) | (apply mr; exact rfl; exact rfl; exact rfl; (focus (conv => lhs; whnf; arg 1; whnf; arg 2; whnf); try skip); (exact nlb rfl)) | exact iq))); exact rfl; (exact rfl); exact Nat.le_refl _; (focus (repeat' (first | exact trivial | refine ⟨?_, ?_⟩))); exact hso)
    exact ⟨rfl, rfl⟩


theorem aqs (v : Nm) (i : Nat) (s : ByteArray) (σ : Sto) (hi : σ[i]? = some (.cells [.str s])) : jo Try.prog 101 [nm v, .ptr i 0] σ fun x σ' => x = .bool (wm v.name s) ∧ σ' = σ := by
  refine ny tab Try.func101 rfl (nlb rfl) (by decide) fun hso => oh ?_
  repeat' (first | (apply bn; (first | (apply ai; (apply az (tt := tt); (focus (conv => lhs; whnf); try exact rfl); exact rfl)) | (apply dw; (apply di true tab; (focus (conv => lhs; whnf; arg 1; whnf; arg 2; whnf); try exact rfl); (exact trivial); exact rfl)) | (apply fq; (first | (apply aa; (apply aj tab; exact rfl; exact rfl; exact rfl; (focus (conv => lhs; whnf; arg 1; whnf; arg 2; whnf); try skip); (exact trivial)); (intro c h; cases h); exact rfl) | (apply aa; (apply jb tab; exact rfl; exact rfl; (exact ag (by assumption)); (focus (conv => lhs; whnf; arg 1; whnf; arg 2; whnf); try skip); (exact trivial)); (intro c h; cases h); exact rfl))) | (apply cu; (apply aa; (apply af tab; exact rfl; (focus (conv => lhs; whnf); try exact rfl); exact rfl; (exact (rfl : _ = 0))); (intro c h; cases h); exact rfl)) | (apply lu; (apply kg (tt := tt); (focus (conv => lhs; whnf); try exact rfl); exact rfl; (exact (rfl : _ = 0)); exact rfl)) | (apply ak))) | (apply bq; (first | (apply bg) | (apply ah) | (apply dn))) | (apply bf))
  (change gu _ _ _ _ _ _ _; apply fu; (exact .inr rfl); (focus (repeat' (first | (apply lc; (focus (conv => lhs; whnf); try exact rfl); (exact Wk.same _)) | exact iq))); exact rfl; (exact rfl); exact Nat.le_refl _; (focus (repeat' (first | exact trivial | refine ⟨?_, ?_⟩))); exact hso)
  exact ⟨rfl, rfl⟩
theorem aqp (v : Ss) (i : Nat) (id : Int) (σ : Sto) (hi : σ[i]? = some (.cells [.int .i64 id])) : jo Try.prog 45 [ss v, .ptr i 0] σ fun x σ' => x = .bool (v.client == id) ∧ σ' = σ := by
  refine ny tab Try.func45 rfl (nlb rfl) (by decide) fun hso => oh ?_
  repeat' (first | (apply bn; (first | (apply ai; (apply az (tt := tt); (focus (conv => lhs; whnf); try exact rfl); exact rfl)) | (apply dw; (apply di true tab; (focus (conv => lhs; whnf; arg 1; whnf; arg 2; whnf); try exact rfl); (exact trivial); exact rfl)) | (apply fq; (first | (apply aa; (apply aj tab; exact rfl; exact rfl; exact rfl; (focus (conv => lhs; whnf; arg 1; whnf; arg 2; whnf); try skip); (exact trivial)); (intro c h; cases h); exact rfl) | (apply aa; (apply jb tab; exact rfl; exact rfl; (exact ag (by assumption)); (focus (conv => lhs; whnf; arg 1; whnf; arg 2; whnf); try skip); (exact trivial)); (intro c h; cases h); exact rfl))) | (apply cu; (apply aa; (apply af tab; exact rfl; (focus (conv => lhs; whnf); try exact rfl); exact rfl; (exact (rfl : _ = 0))); (intro c h; cases h); exact rfl)) | (apply lu; (apply kg (tt := tt); (focus (conv => lhs; whnf); try exact rfl); exact rfl; (exact (rfl : _ = 0)); exact rfl)) | (apply ak))) | (apply bq; (first | (apply bg) | (apply ah) | (apply dn))) | (apply bf))
  (change gu _ _ _ _ _ _ _; apply fu; (exact .inr rfl); (focus (repeat' (first | (apply lc; (focus (conv => lhs; whnf); try exact rfl); (exact Wk.same _)) | exact iq))); exact rfl; (exact rfl); exact Nat.le_refl _; (focus (repeat' (first | exact trivial | refine ⟨?_, ?_⟩))); exact hso)
  exact ⟨rfl, rfl⟩
theorem aoj (v : Ss) (i : Nat) (c : Cm) (σ : Sto) (hi : σ[i]? = some (.cells (cm c).cells)) : jo Try.prog 62 [ss v, .ptr i 0] σ fun x σ' => x = .bool (v.client == c.client) ∧ σ' = σ := by
  refine ny tab Try.func62 rfl (nlb rfl) (by decide) fun hso => oh ?_
  repeat' (first | (apply bn; (first | (apply ai; (apply az (tt := tt); (focus (conv => lhs; whnf); try exact rfl); exact rfl)) | (apply dw; (apply di true tab; (focus (conv => lhs; whnf; arg 1; whnf; arg 2; whnf); try exact rfl); (exact trivial); exact rfl)) | (apply fq; (first | (apply aa; (apply aj tab; exact rfl; exact rfl; exact rfl; (focus (conv => lhs; whnf; arg 1; whnf; arg 2; whnf); try skip); (exact trivial)); (intro c h; cases h); exact rfl) | (apply aa; (apply jb tab; exact rfl; exact rfl; (exact ag (by assumption)); (focus (conv => lhs; whnf; arg 1; whnf; arg 2; whnf); try skip); (exact trivial)); (intro c h; cases h); exact rfl))) | (apply cu; (apply aa; (apply af tab; exact rfl; (focus (conv => lhs; whnf); try exact rfl); exact rfl; (first | exact (rfl : _ = 0) | exact (rfl : _ = 1))); (intro c h; cases h); exact rfl)) | (apply lu; (apply kg (tt := tt); (focus (conv => lhs; whnf); try exact rfl); exact rfl; (exact (rfl : _ = 0)); exact rfl)) | (apply ak))) | (apply bq; (first | (apply bg) | (apply ah) | (apply dn))) | (apply bf))
  (change gu _ _ _ _ _ _ _; apply fu; (exact .inr rfl); (focus (repeat' (first | (apply lc; (focus (conv => lhs; whnf); try exact rfl); (exact Wk.same _)) | exact iq))); exact rfl; (exact rfl); exact Nat.le_refl _; (focus (repeat' (first | exact trivial | refine ⟨?_, ?_⟩))); exact hso)
  exact ⟨rfl, rfl⟩
theorem anp (v : Nm) (i : Nat) (c : Cm) (σ : Sto) (hi : σ[i]? = some (.cells (cm c).cells)) : jo Try.prog 90 [nm v, .ptr i 0] σ fun x σ' => x = .bool (gtN c.name v) ∧ σ' = σ := by
  refine ny tab Try.func90 rfl (nlb rfl) (by decide) fun hso => oh ?_
  repeat' (first | (apply bn; (first | (apply ai; (apply az (tt := tt); (focus (conv => lhs; whnf); try exact rfl); exact rfl)) | (apply dw; (apply di true tab; (focus (conv => lhs; whnf; arg 1; whnf; arg 2; whnf); try exact rfl); (exact trivial); exact rfl)) | (apply fq; (first | (apply aa; (apply aj tab; exact rfl; exact rfl; exact rfl; (focus (conv => lhs; whnf; arg 1; whnf; arg 2; whnf); try skip); (exact trivial)); (intro c h; cases h); exact rfl) | (apply aa; (apply jb tab; exact rfl; exact rfl; (exact ag (by assumption)); (focus (conv => lhs; whnf; arg 1; whnf; arg 2; whnf); try skip); (exact trivial)); (intro c h; cases h); exact rfl))) | (apply cu; (apply aa; (apply af tab; exact rfl; (focus (conv => lhs; whnf); try exact rfl); exact rfl; (first | exact (rfl : _ = 0) | exact (rfl : _ = 3))); (intro c h; cases h); exact rfl)) | (apply lu; (apply kg (tt := tt); (focus (conv => lhs; whnf); try exact rfl); exact rfl; (exact (rfl : _ = 0)); exact rfl)) | (apply ak))) | (apply bq; (first | (apply bg) | (apply ah) | (apply dn))) | (apply bf))
  (change gu _ _ _ _ _ _ _; apply fu; (exact .inr rfl); (focus (repeat' (first | (apply lc; (focus (conv => lhs; whnf); try exact rfl); (exact Wk.same _)) | exact iq))); exact rfl; (exact rfl); exact Nat.le_refl _; (focus (repeat' (first | exact trivial | refine ⟨?_, ?_⟩))); exact hso)
  exact ⟨rfl, rfl⟩

def aij (x : Ix) (s : ByteArray) : Nm := abq (fun n => wm n.name s) x.names
theorem afo (x : Ix) (s : ByteArray) (hl : x.names.length ≤ 1048576) (σ : Sto) : jo Try.prog 86 [ix x, .str s] σ fun r σ' => r = .tup [nm (aij x s), .int .i64 (u7 x s)] ∧ σ' = σ := by
  refine ny tab Try.func86 rfl (nlb rfl) (by decide) fun hso => oh ?_
  repeat' (first | (apply bn; (first | (apply ai; (apply az (tt := tt); (focus (conv => lhs; whnf); try exact rfl); exact rfl)) | (apply fq; (apply aa; (apply aj tab; exact rfl; exact rfl; exact rfl; (focus (conv => lhs; whnf; arg 1; whnf; arg 2; whnf); try skip); (exact trivial)); (intro c h; cases h); exact rfl)) | (apply cu; (apply aa; (apply af tab; exact rfl; (focus (conv => lhs; whnf); try exact rfl); exact rfl; (exact (rfl : _ = 1))); (intro c h; cases h); exact rfl)) | (apply qd; (apply aa; (apply dx (tt := tt); exact rfl; exact rfl; (focus (conv => lhs; whnf); try exact rfl)); (intro c h; cases h); exact rfl)) | (apply je; (apply ik tab; exact rfl; exact rfl; (exact (rfl : _ = 2)); exact rfl)) | (apply lu; (apply kg (tt := tt); (focus (conv => lhs; whnf); try exact rfl); exact rfl; (first | exact (rfl : _ = 0) | exact (rfl : _ = 1)); exact rfl)) | (apply ak))) | (apply bq; (first | (apply bg) | (apply ah))) | (apply bf))
  refine cz (tt := tt) apg (ahf (fun v => wm v.name s) x.names hl _ axv (fun ex y _ => aqs y _ s _ ?_) ?_) rfl rfl rfl rfl rfl ?_
  rotate_left 2
  · repeat' (first | (apply bn; (first | (apply ai; (apply az (tt := tt); (focus (conv => lhs; whnf); try exact rfl); exact rfl)) | (apply iw; (apply iy (tt := tt); (focus (conv => lhs; whnf; arg 1; whnf; arg 2; whnf); try exact rfl); (exact trivial); exact rfl)) | (apply gq; (apply dz tab; exact rfl; exact rfl; exact rfl; exact rfl; exact rfl; exact rfl; exact rfl; exact rfl)) | (apply ak))) | (apply bq; (apply dn)) | (apply bf))
    (change gu _ _ _ _ _ _ _; apply fu; (exact .inr rfl); (focus (repeat' (first | (apply lc; (focus (conv => lhs; whnf); try exact rfl); (exact Wk.same _)) | (apply mr; exact rfl; exact rfl; exact rfl; (focus (conv => lhs; whnf; arg 1; whnf; arg 2; whnf); try skip); (exact nlb rfl)) | exact iq))); exact rfl; (exact rfl); exact Nat.le_refl _; (focus (repeat' (first | exact trivial | refine ⟨?_, ?_⟩))); exact hso)
    exact ⟨rfl, rfl⟩
  · exact ag (wo _)
  · rfl
def ad8 (x : Ix) (id : Int) : Ss := abq (fun s => s.client == id) x.last
theorem ajd (x : Ix) (id : Int) (hl : x.last.length ≤ 1048576) (σ : Sto) : jo Try.prog 24 [ix x, .int .i64 id] σ fun r σ' => r = .tup [ss (ad8 x id), .bool (decide (0 ≤ uw x id))] ∧ σ' = σ := by
  refine ny tab Try.func24 rfl (nlb rfl) (by decide) fun hso => oh ?_
  repeat' (first | (apply bn; (first | (apply bv; (apply bu (tt := tt); (focus (conv => lhs; whnf); try exact rfl); exact rfl)) | (apply ai; (apply az (tt := tt); (focus (conv => lhs; whnf); try exact rfl); exact rfl)) | (apply dw; (apply di true tab; (focus (conv => lhs; whnf; arg 1; whnf; arg 2; whnf); try exact rfl); (exact trivial); exact rfl)) | (apply fq; (apply aa; (apply aj tab; exact rfl; exact rfl; exact rfl; (focus (conv => lhs; whnf; arg 1; whnf; arg 2; whnf); try skip); (first | exact trivial | exact nlb rfl)); (intro c h; cases h); exact rfl)) | (apply cu; (apply aa; (apply af tab; exact rfl; (focus (conv => lhs; whnf); try exact rfl); exact rfl; (exact (rfl : _ = 2))); (intro c h; cases h); exact rfl)) | (apply iw; (apply iy (tt := tt); (focus (conv => lhs; whnf; arg 1; whnf; arg 2; whnf); try exact rfl); (exact trivial); exact rfl)) | (apply gq; (apply dz tab; exact rfl; exact rfl; exact rfl; exact rfl; exact rfl; exact rfl; exact rfl; exact rfl)) | (apply qd; (apply aa; (apply dx (tt := tt); exact rfl; exact rfl; (focus (conv => lhs; whnf); try exact rfl)); (intro c h; cases h); exact rfl)) | (apply je; (apply ik tab; exact rfl; exact rfl; (first | exact (rfl : _ = 1) | exact (rfl : _ = 2)); exact rfl)) | (apply lu; (apply kg (tt := tt); (focus (conv => lhs; whnf); try exact rfl); exact rfl; (first | exact (rfl : _ = 0) | exact (rfl : _ = 1)); exact rfl)) | (apply ak))) | (apply bq; (first | (apply bg) | (apply ah) | (apply dn))) | (apply bf))
  refine cz (tt := tt) aph (agw (fun s => s.client == id) x.last hl _ ays (fun ex y _ => aqp y _ id _ ?_) ?_) rfl rfl rfl rfl rfl ?_
  rotate_left 2
  · repeat' (first | (apply bn; (first | (apply bv; (apply bu (tt := tt); (focus (conv => lhs; whnf); try exact rfl); exact rfl)) | (apply ai; (apply az (tt := tt); (focus (conv => lhs; whnf); try exact rfl); exact rfl)) | (apply dw; (apply di true tab; (focus (conv => lhs; whnf; arg 1; whnf; arg 2; whnf); try exact rfl); (exact trivial); exact rfl)) | (apply fq; (apply aa; (apply aj tab; exact rfl; exact rfl; exact rfl; (focus (conv => lhs; whnf; arg 1; whnf; arg 2; whnf); try skip); (exact nlb rfl)); (intro c h; cases h); exact rfl)) | (apply iw; (apply iy (tt := tt); (focus (conv => lhs; whnf; arg 1; whnf; arg 2; whnf); try exact rfl); (exact trivial); exact rfl)) | (apply gq; (apply dz tab; exact rfl; exact rfl; exact rfl; exact rfl; exact rfl; exact rfl; exact rfl; exact rfl)) | (apply je; (apply ik tab; exact rfl; exact rfl; (exact (rfl : _ = 3)); exact rfl)) | (apply ak))) | (apply bq; (first | (apply bg) | (apply ah) | (apply dn))) | (apply bf))
    (change gu _ _ _ _ _ _ _; apply fu; (exact .inr rfl); (focus (repeat' (first | (apply lc; (focus (conv => lhs; whnf); try exact rfl); (exact Wk.same _)) | (apply mr; exact rfl; exact rfl; exact rfl; (focus (conv => lhs; whnf; arg 1; whnf; arg 2; whnf); try skip); (exact nlb rfl)) | exact iq))); exact rfl; (exact rfl); exact Nat.le_refl _; (focus (repeat' (first | exact trivial | refine ⟨?_, ?_⟩))); exact hso)
    exact ⟨rfl, rfl⟩
  · exact ag (wo _)
  · rfl

theorem rz (e : Int) (σ : Sto) : jo Try.prog 46 [.int .i64 e] σ fun r σ' => r = rp (refuse e) ∧ σ' = σ := by
  refine ny tab Try.func46 rfl (nlb rfl) (by decide) fun hso => oh ?_
  repeat' (first | (apply bn; (first | (apply bv; (apply bu (tt := tt); (focus (conv => lhs; whnf); try exact rfl); exact rfl)) | (apply ai; (apply az (tt := tt); (focus (conv => lhs; whnf); try exact rfl); exact rfl)) | (apply dw; (apply di true tab; (focus (conv => lhs; whnf; arg 1; whnf; arg 2; whnf); try exact rfl); (exact trivial); exact rfl)) | (apply fq; (apply aa; (apply aj tab; exact rfl; exact rfl; exact rfl; (focus (conv => lhs; whnf; arg 1; whnf; arg 2; whnf); try skip); (exact nlb rfl)); (intro c h; cases h); exact rfl)) | (apply iw; (apply iy (tt := tt); (focus (conv => lhs; whnf; arg 1; whnf; arg 2; whnf); try exact rfl); (exact trivial); exact rfl)) | (apply gq; (apply dz tab; exact rfl; exact rfl; exact rfl; exact rfl; exact rfl; exact rfl; exact rfl; exact rfl)) | (apply pq; (apply aa; (apply gy tab; exact rfl; (focus (conv => lhs; whnf; arg 1; whnf; arg 2; whnf); try skip)); (intro c h; cases h); exact rfl)) | (apply je; (apply ik tab; exact rfl; exact rfl; (first | exact (rfl : _ = 0) | exact (rfl : _ = 3)); exact rfl)) | (apply ak))) | (apply bq; (first | (apply bg) | (apply ah) | (apply dn))) | (apply bf))
  (change gu _ _ _ _ _ _ _; apply fu; (exact .inr rfl); (focus (repeat' (first | (apply lc; (focus (conv => lhs; whnf); try exact rfl); (exact Wk.same _)) | (apply mr; exact rfl; exact rfl; exact rfl; (focus (conv => lhs; whnf; arg 1; whnf; arg 2; whnf); try skip); (exact nlb rfl)) | exact iq))); exact rfl; (exact rfl); exact Nat.le_refl _; (focus (repeat' (first | exact trivial | refine ⟨?_, ?_⟩))); exact hso)
  exact ⟨rfl, rfl⟩

def xx (x : Ix) (c : Cm) (f : Ix → Cm → Int → Vl → Ix × Rp) : Ix × Rp := if ol x c.vol < 0 then (x, refuse 7) else f x c (ol x c.vol) (x.vols.getD (ol x c.vol).toNat default)
theorem abp {x : Ix} {id : Int} (h : ¬ ol x id < 0) : asy x id = x.vols.getD (ol x id).toNat default := if_neg h
theorem asi {x : Ix} {s : ByteArray} (h : ¬ u7 x s < 0) : aij x s = x.names.getD (u7 x s).toNat default := if_neg h

end Go.Proofs.Ytbpjaiemlkcccaa.Pv
