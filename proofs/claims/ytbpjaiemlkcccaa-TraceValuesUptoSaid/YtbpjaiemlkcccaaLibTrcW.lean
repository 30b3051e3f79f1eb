
/- What a name was at a place, and which of two was done ahead, by the program. -/
import Derived.Test.YtbpjaiemlkcccaaLibTrcV
namespace Go.Proofs.Ytbpjaiemlkcccaa.Pv
open Go
set_option linter.unusedVariables false
set_option linter.unusedSimpArgs false
set_option maxRecDepth 100000

set_option maxHeartbeats 4000000 in
theorem ah3 (F : List Ft) (puts : List Pt) (name : ByteArray) (a : Int) (hF : F.length ≤ 1048576) (hp : puts.length ≤ 1048576) (σ : Sto) :
    jo Try.prog 17 [.sl .sh 11 (F.map ft), .sl .sh 3 (puts.map pt), .str name, .int .i64 a] σ fun x s => x = .tup [.str (aau F puts name a F.length (⟨#[]⟩, false)).1, .bool (aau F puts name a F.length (⟨#[]⟩, false)).2] ∧ s = σ := by
  refine ny tab Try.func17 rfl (nlb rfl) (by decide) fun hso => oh ?_
  repeat' (first | (apply bn; (first | (apply bv; (apply bu (tt := tt); (focus (conv => lhs; whnf); try exact rfl); exact rfl)) | (apply ai; (apply az (tt := tt); (focus (conv => lhs; whnf); try exact rfl); exact rfl)) | (apply gq; (apply dz tab; exact rfl; exact rfl; exact rfl; exact rfl; exact rfl; exact rfl; exact rfl; exact rfl)) | (apply je; (apply ik tab; exact rfl; exact rfl; (first | exact (rfl : _ = 1) | exact (rfl : _ = 2)); exact rfl)) | (apply lu; (apply kg (tt := tt); (focus (conv => lhs; whnf); try exact rfl); exact rfl; (exact (rfl : _ = 0)); exact rfl)) | (apply ak))) | (apply bq; (first | (apply bg) | (apply ah))) | (apply bf))
  have ho : jo Try.prog 34 [.sl .sh 11 (F.map ft), .str name, .int .i64 a] (σ ++ [.cells [.sl .sh 3 (puts.map pt)], .cells [.str ⟨#[]⟩], .cells [.bool false]]) fun x s => x = .fn (.func 53) [] [.ptr (σ.length + 3) 0, .ptr (σ.length + 5) 0, .ptr (σ.length + 4) 0] ∧ s = σ ++ [.cells [.sl .sh 3 (puts.map pt)], .cells [.str ⟨#[]⟩], .cells [.bool false], .cells [.sl .sh 11 (F.map ft)], .cells [.str name], .cells [.int .i64 a]] :=
    (aw3 F name a _).mono fun x s ⟨h1, h2⟩ => ⟨by rw [h1]; simp, by rw [h2]; simp⟩
  refine aar (tt := tt) ay2 ho rfl rfl rfl rfl rfl ?_
  rintro r s ⟨rfl, rfl⟩
  repeat' (first | (apply bn; (apply ak)) | (apply bq; (apply ed)) | (apply bf))
  refine ar2 (tt := tt) [(5, .ptr (σ.length + 0) 0), (10, .ptr (σ.length + 1) 0), (11, .ptr (σ.length + 2) 0)] ayu rfl (amr.at ⟨⟨rfl, rfl⟩, ⟨rfl, rfl⟩, ⟨rfl, rfl⟩, trivial⟩) rfl fun rcd hsz hpar has hbody => ?_
  have hi : (σ ++ [Ent.cells [.sl .sh 3 (puts.map pt)], .cells [.str ⟨#[]⟩], .cells [.bool false], .cells [.sl .sh 11 (F.map ft)], .cells [.str name], .cells [.int .i64 a]]).length = σ.length + 6 := by simp
  refine ⟨fun r s' => r = .tup [] ∧ s' = σ ++ vEx puts F name a (aau F puts name a F.length (⟨#[]⟩, false)) (.loop .ready none rcd [(5, .ptr (σ.length + 0) 0), (10, .ptr (σ.length + 1) 0), (11, .ptr (σ.length + 2) 0)]) [], ?_, ?_⟩
  · rw [hi, List.append_assoc]
    refine avl puts F name a hF (⟨#[]⟩, false) σ rcd [(5, .ptr (σ.length + 0) 0), (10, .ptr (σ.length + 1) 0), (11, .ptr (σ.length + 2) 0)] ?_ fun v f => ?_
    · exact vw (by simp [PV.lt])
    have hx := aju (g := 36) (caps := [.ptr (σ.length + 8) 0]) (isP f) puts (by omega)
    have hx1 : qc (isP f) puts < (puts.length : Int) := by
      rcases abg (isP f) puts with ⟨e, _⟩ | ⟨q, y, e1, e2, _, _⟩
      · rw [e]; omega
      · have := (List.getElem?_eq_some_iff.1 e2).1; rw [e1]; omega
    by_cases k3 : f.kind = 3
    · have c3 : (f.kind == 3) = true := beq_iff_eq.2 k3
      by_cases hx0 : qc (isP f) puts < 0
      · rw [show acj puts v f = (⟨#[]⟩, true) by unfold acj afi; rw [if_pos k3, if_pos hx0]]
        refine af9 (i := σ.length + 6) (wo 6) hsz (by rw [hpar]; rfl) (by rw [hpar]; decide) (by simp [PV.isS, ft]) fun l => ?_
        rw [has, hbody, hpar]
        unfold vEx
        have c4 : decide (0 ≤ qc (isP f) puts) = false := decide_eq_false (by omega)
        repeat' (first | (apply bn; (first | (apply gq; (apply dz tab; exact rfl; exact rfl; exact rfl; exact rfl; exact rfl; exact rfl; exact rfl; exact rfl)) | (apply je; (apply ik tab; exact rfl; exact rfl; (exact (rfl : _ = 8)); exact rfl)) | (apply ak))) | (apply bq; (apply ah)))
        refine ⟨rfl, wo 6, ?_⟩
        rw [abr]
        repeat' (first | (apply bn; (first | (apply ai; (apply az (tt := tt); (focus (conv => lhs; whnf); try exact rfl); exact rfl)) | (apply dw; (apply di true tab; (focus (conv => lhs; whnf; arg 1; whnf; arg 2; whnf); try exact rfl); (exact trivial); exact rfl)) | (apply fq; (apply aa; (apply aj tab; exact rfl; exact rfl; exact rfl; (focus (conv => lhs; whnf; arg 1; whnf; arg 2; whnf); try skip); (exact trivial)); (intro c h; cases h); exact rfl)) | (apply cu; (apply aa; (apply af tab; exact rfl; (focus (conv => lhs; whnf); try exact rfl); exact rfl; (exact (rfl : _ = 3))); (intro c h; cases h); exact rfl)) | (apply qd; (apply aa; (apply dx (tt := tt); exact rfl; exact rfl; (focus (conv => lhs; whnf); try exact rfl)); (intro c h; cases h); exact rfl)) | (apply ak))) | (apply bq; (first | (apply bg) | (apply ah) | (apply df; exact rfl; (assumption)) | (apply ed))) | (apply bf))
        refine cz (tt := tt) auc (hx _ aul (fun y _ => ajt y f (σ.length + 8) _ ((wo 8).trans rfl)) rfl) rfl rfl rfl rfl rfl ?_
        repeat' (first | (apply bn; (first | (apply bv; (apply bu (tt := tt); (focus (conv => lhs; whnf); try exact rfl); exact rfl)) | (apply ai; (apply az (tt := tt); (focus (conv => lhs; whnf); try exact rfl); exact rfl)) | (apply dw; (apply di true tab; (focus (conv => lhs; whnf; arg 1; whnf; arg 2; whnf); try exact rfl); (exact trivial); exact rfl)) | (apply gq; (apply dz tab; exact rfl; exact rfl; exact rfl; exact rfl; exact rfl; exact rfl; exact rfl; exact rfl)) | (apply ak))) | (apply bq; (first | (apply bg) | (apply ah) | (apply dm; exact rfl; (assumption)) | (apply gz))) | (apply bf) | (apply ng))
        refine ⟨wo 6, rfl, ?_⟩
        rw [abr]
        exact ⟨_, rfl⟩
      · rw [show acj puts v f = ((puts.getD (qc (isP f) puts).toNat default).2.2, true) by unfold acj afi; rw [if_pos k3, if_neg hx0]]
        refine af9 (i := σ.length + 6) (wo 6) hsz (by rw [hpar]; rfl) (by rw [hpar]; decide) (by simp [PV.isS, ft]) fun l => ?_
        rw [has, hbody, hpar]
        unfold vEx
        have c4 : decide (0 ≤ qc (isP f) puts) = true := decide_eq_true (by omega)
        have hx2 : 0 ≤ qc (isP f) puts := by omega
        repeat' (first | (apply bn; (first | (apply gq; (apply dz tab; exact rfl; exact rfl; exact rfl; exact rfl; exact rfl; exact rfl; exact rfl; exact rfl)) | (apply je; (apply ik tab; exact rfl; exact rfl; (exact (rfl : _ = 8)); exact rfl)) | (apply ak))) | (apply bq; (apply ah)))
        refine ⟨rfl, wo 6, ?_⟩
        rw [abr]
        repeat' (first | (apply bn; (first | (apply ai; (apply az (tt := tt); (focus (conv => lhs; whnf); try exact rfl); exact rfl)) | (apply dw; (apply di true tab; (focus (conv => lhs; whnf; arg 1; whnf; arg 2; whnf); try exact rfl); (exact trivial); exact rfl)) | (apply fq; (apply aa; (apply aj tab; exact rfl; exact rfl; exact rfl; (focus (conv => lhs; whnf; arg 1; whnf; arg 2; whnf); try skip); (exact trivial)); (intro c h; cases h); exact rfl)) | (apply cu; (apply aa; (apply af tab; exact rfl; (focus (conv => lhs; whnf); try exact rfl); exact rfl; (exact (rfl : _ = 3))); (intro c h; cases h); exact rfl)) | (apply qd; (apply aa; (apply dx (tt := tt); exact rfl; exact rfl; (focus (conv => lhs; whnf); try exact rfl)); (intro c h; cases h); exact rfl)) | (apply ak))) | (apply bq; (first | (apply bg) | (apply ah) | (apply df; exact rfl; (assumption)) | (apply ed))) | (apply bf))
        refine cz (tt := tt) auc (hx _ aul (fun y _ => ajt y f (σ.length + 8) _ ((wo 8).trans rfl)) rfl) rfl rfl rfl rfl rfl ?_
        repeat' (first | (apply bn; (first | (apply bv; (apply bu (tt := tt); (focus (conv => lhs; whnf); try exact rfl); exact rfl)) | (apply ai; (apply az (tt := tt); (focus (conv => lhs; whnf); try exact rfl); exact rfl)) | (apply dw; (apply di true tab; (focus (conv => lhs; whnf; arg 1; whnf; arg 2; whnf); try exact rfl); (exact trivial); exact rfl)) | (apply fq; (first | (apply aa; (apply aj tab; exact rfl; exact rfl; exact rfl; (focus (conv => lhs; whnf; arg 1; whnf; arg 2; whnf); try skip); (exact trivial)); (intro c h; cases h); exact rfl) | (apply ou tab; (focus (conv => lhs; whnf; arg 1; whnf; arg 2; whnf); try skip); (exact trivial); exact rfl))) | (apply j5; (refine lw (tI := 3) _ tab rfl (by (focus (conv => lhs; whnf); try exact rfl)) (by (focus (conv => lhs; whnf); try exact rfl)) rfl (by (omega)) (by (omega)) (by (focus (conv => lhs; whnf); try exact rfl)) (ltn rfl) ?_)) | (apply cu; (apply aa; (apply bz tab; exact rfl; (focus (conv => lhs; whnf); try exact rfl); exact rfl; exact rfl; (focus (conv => lhs; whnf); try exact rfl)); (intro c h; cases h); exact rfl)) | (apply gq; (apply dz tab; exact rfl; exact rfl; exact rfl; exact rfl; exact rfl; exact rfl; exact rfl; exact rfl)) | (apply ak))) | (apply bq; (first | (apply bg) | (apply ah) | (apply df; exact rfl; (assumption)))) | (apply bf) | (apply ng))
        refine ⟨wo 6, rfl, ?_⟩
        rw [abr]
        exact ⟨_, rfl⟩
    · have c3 : (f.kind == 3) = false := beq_eq_false_iff_ne.2 k3
      by_cases k4 : f.kind = 4
      · rw [show acj puts v f = (⟨#[]⟩, false) by unfold acj; rw [if_neg k3, if_pos k4]]
        refine af9 (i := σ.length + 6) (wo 6) hsz (by rw [hpar]; rfl) (by rw [hpar]; decide) (by simp [PV.isS, ft]) fun l => ?_
        rw [has, hbody, hpar]
        unfold vEx
        have c4 : (f.kind == 4) = true := beq_iff_eq.2 k4
        repeat' (first | (apply bn; (first | (apply gq; (apply dz tab; exact rfl; exact rfl; exact rfl; exact rfl; exact rfl; exact rfl; exact rfl; exact rfl)) | (apply je; (apply ik tab; exact rfl; exact rfl; (exact (rfl : _ = 8)); exact rfl)) | (apply ak))) | (apply bq; (apply ah)))
        refine ⟨rfl, wo 6, ?_⟩
        rw [abr]
        repeat' (first | (apply bn; (first | (apply ai; (apply az (tt := tt); (focus (conv => lhs; whnf); try exact rfl); exact rfl)) | (apply dw; (apply di true tab; (focus (conv => lhs; whnf; arg 1; whnf; arg 2; whnf); try exact rfl); (exact trivial); exact rfl)) | (apply fq; (apply aa; (apply aj tab; exact rfl; exact rfl; exact rfl; (focus (conv => lhs; whnf; arg 1; whnf; arg 2; whnf); try skip); (exact trivial)); (intro c h; cases h); exact rfl)) | (apply cu; (apply aa; (apply af tab; exact rfl; (focus (conv => lhs; whnf); try exact rfl); exact rfl; (exact (rfl : _ = 3))); (intro c h; cases h); exact rfl)) | (apply gq; (apply dz tab; exact rfl; exact rfl; exact rfl; exact rfl; exact rfl; exact rfl; exact rfl; exact rfl)) | (apply ak))) | (apply bq; (first | (apply bg) | (apply ah) | (apply df; exact rfl; (assumption)) | (apply dm; exact rfl; (assumption)) | (apply ed))) | (apply bf) | (apply ng))
        refine ⟨wo 6, rfl, ?_⟩
        rw [abr]
        exact ⟨_, rfl⟩
      · rw [show acj puts v f = v by unfold acj; rw [if_neg k3, if_neg k4]]
        refine af9 (i := σ.length + 6) (wo 6) hsz (by rw [hpar]; rfl) (by rw [hpar]; decide) (by simp [PV.isS, ft]) fun l => ?_
        rw [has, hbody, hpar]
        unfold vEx
        have c4 : (f.kind == 4) = false := beq_eq_false_iff_ne.2 k4
        repeat' (first | (apply bn; (first | (apply gq; (apply dz tab; exact rfl; exact rfl; exact rfl; exact rfl; exact rfl; exact rfl; exact rfl; exact rfl)) | (apply je; (apply ik tab; exact rfl; exact rfl; (exact (rfl : _ = 8)); exact rfl)) | (apply ak))) | (apply bq; (apply ah)))
        refine ⟨rfl, wo 6, ?_⟩
        rw [abr]
        repeat' (first | (apply bn; (first | (apply ai; (apply az (tt := tt); (focus (conv => lhs; whnf); try exact rfl); exact rfl)) | (apply dw; (apply di true tab; (focus (conv => lhs; whnf; arg 1; whnf; arg 2; whnf); try exact rfl); (exact trivial); exact rfl)) | (apply fq; (apply aa; (apply aj tab; exact rfl; exact rfl; exact rfl; (focus (conv => lhs; whnf; arg 1; whnf; arg 2; whnf); try skip); (exact trivial)); (intro c h; cases h); exact rfl)) | (apply cu; (apply aa; (apply af tab; exact rfl; (focus (conv => lhs; whnf); try exact rfl); exact rfl; (exact (rfl : _ = 3))); (intro c h; cases h); exact rfl)) | (apply ak))) | (apply bq; (first | (apply bg) | (apply ah) | (apply dm; exact rfl; (assumption)) | (apply gz) | (apply ed))) | (apply bf) | (apply ng))
        refine ⟨wo 6, rfl, ?_⟩
        rw [abr]
        exact ⟨_, rfl⟩
  · rintro r s' ⟨rfl, rfl⟩
    rw [hi]
    refine ⟨.ready, none, wo 6, by decide, ?_⟩
    simp only
    rw [abr]
    unfold vEx
    repeat' (first | (apply bn; (first | (apply ai; (apply az (tt := tt); (focus (conv => lhs; whnf); try exact rfl); exact rfl)) | (apply ak))) | (apply bq; (first | (apply bg) | (apply dn) | (apply ko (k := 3); exact mixed; decide +kernel; decide +kernel))) | (apply bf) | (apply ng) | (apply p9; (first | (apply p8; (first | (apply jl; (apply jm (tt := tt); (focus (conv => lhs; whnf); try exact rfl))) | (apply gm; (apply aj tab; exact rfl; exact rfl; exact rfl; (focus (conv => lhs; whnf; arg 1; whnf; arg 2; whnf); try skip); (exact trivial)))); exact rfl; exact rfl) | (apply oz))))
    (change gu _ _ _ _ _ _ _; apply fu; (exact .inr rfl); (focus (repeat' (first | (apply lc; (focus (conv => lhs; whnf); try exact rfl); (exact Wk.same _)) | exact iq))); exact rfl; (exact rfl); exact Nat.le_refl _; (focus (repeat' (first | exact trivial | refine ⟨?_, ?_⟩))); exact hso)
    exact ⟨rfl, rfl⟩

end Go.Proofs.Ytbpjaiemlkcccaa.Pv
