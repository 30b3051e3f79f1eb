import Derived.Test.YtbpjaiemlkcccaaLibK1
import Derived.Test.YtbpjaiemlkcccaaLibK2
import Derived.Test.YtbpjaiemlkcccaaLibK3
import Derived.Test.YtbpjaiemlkcccaaLibK4
import Derived.Test.YtbpjaiemlkcccaaLibK5
import Derived.Test.YtbpjaiemlkcccaaLibK6
import Derived.Test.YtbpjaiemlkcccaaLibK0
set_option linter.unusedVariables false
set_option linter.unusedSimpArgs false
section
/- Indexes in the program itself: what a command does. -/
namespace Go.Proofs.Ytbpjaiemlkcccaa.Pv
open Go
set_option maxRecDepth 100000
theorem avf {x : Ix} {c : Cm} (k : c.kind = 1) : vz x c = afs x c := if_pos k
theorem au6 {x : Ix} {c : Cm} (k : c.kind = 2) : vz x c = xx x c ahr := by
  unfold vz aje xx
  rw [if_neg (by omega), if_neg (by omega), if_neg (by omega), if_neg (by omega), if_neg (by omega), if_pos k]
theorem avt {x : Ix} {c : Cm} (k : c.kind = 3) : vz x c = aco x c := by
  unfold vz; rw [if_neg (by omega), if_pos k]
theorem au3 {x : Ix} {c : Cm} (k : c.kind = 4) : vz x c = aas x c := by
  unfold vz; rw [if_neg (by omega), if_neg (by omega), if_pos k]
theorem avx {x : Ix} {c : Cm} (k : c.kind = 5) : vz x c = aas x c := by
  unfold vz; rw [if_neg (by omega), if_neg (by omega), if_neg (by omega), if_pos k]
theorem avp {x : Ix} {c : Cm} (k : c.kind = 6) : vz x c = xx x c aga := by
  unfold vz aje xx
  rw [if_neg (by omega), if_neg (by omega), if_neg (by omega), if_neg (by omega), if_neg (by omega), if_neg (show ¬ c.kind = 2 by omega), if_pos k]
theorem avr {x : Ix} {c : Cm} (k : c.kind = 7) : vz x c = xx x c afr := by
  unfold vz aje xx
  rw [if_neg (by omega), if_neg (by omega), if_neg (by omega), if_neg (by omega), if_neg (by omega), if_neg (show ¬ c.kind = 2 by omega), if_neg (show ¬ c.kind = 6 by omega), if_pos k]
theorem avo {x : Ix} {c : Cm} (k : c.kind = 8) : vz x c = ae3 x c := by
  unfold vz; rw [if_neg (by omega), if_neg (by omega), if_neg (by omega), if_neg (by omega), if_pos k]
theorem avi {x : Ix} {c : Cm} (k1 : c.kind ≠ 1) (k2 : c.kind ≠ 2) (k3 : c.kind ≠ 3) (k4 : c.kind ≠ 4) (k5 : c.kind ≠ 5) (k6 : c.kind ≠ 6) (k7 : c.kind ≠ 7) (k8 : c.kind ≠ 8) : vz x c = xx x c ach := by
  unfold vz aje xx
  rw [if_neg k1, if_neg k3, if_neg k4, if_neg k5, if_neg k8, if_neg k2, if_neg k6, if_neg k7]
set_option maxHeartbeats 4000000 in
theorem ara (x : Ix) (c : Cm) (hx : OkI x) (ho : 0 ≤ c.off ∧ c.off ≤ 1048576) (hn : 0 ≤ c.n ∧ c.n ≤ 1048576) (hi : 0 ≤ c.idx ∧ c.idx ≤ 1048576) (hcp : c.places.length ≤ 14) (σ : Sto) : jo Try.prog 61 [ix x, cm c] σ fun r σ' => r = .tup [ix (vz x c).1, rp (vz x c).2] ∧ σ' = σ := by
  refine ny tab Try.func61 rfl (nlb rfl) (by decide) fun hso => oh ?_
  have hl : x.vols.length ≤ 1048576 := by have := hx.vols; omega
  have hnl : x.names.length ≤ 1048576 := by have := hx.names; omega
  by_cases k1 : c.kind = 1
  · have e1 : (c.kind == 1) = true := by simpa using k1
    have w := aqg x c hl
    rw [avf k1]
    generalize afs x c = D at *
    obtain ⟨Y, R⟩ := D
    dsimp only at w ⊢
    repeat' (first | (apply bn; (first | (apply ai; (apply az (tt := tt); (focus (conv => lhs; whnf); try exact rfl); exact rfl)) | (apply ji; (refine cz (tt := tt) ax6 (w _) rfl rfl rfl rfl rfl ?_)) | (apply dw; (apply di true tab; (focus (conv => lhs; whnf; arg 1; whnf; arg 2; whnf); try exact rfl); (exact trivial); exact rfl)) | (apply fq; (apply aa; (apply aj tab; exact rfl; exact rfl; exact rfl; (focus (conv => lhs; whnf; arg 1; whnf; arg 2; whnf); try skip); (first | exact trivial | exact nlb rfl)); (intro c h; cases h); exact rfl)) | (apply cu; (apply aa; (apply af tab; exact rfl; (focus (conv => lhs; whnf); try exact rfl); exact rfl; (exact (rfl : _ = 0))); (intro c h; cases h); exact rfl)) | (apply iw; (apply iy (tt := tt); (focus (conv => lhs; whnf; arg 1; whnf; arg 2; whnf); try exact rfl); (exact trivial); exact rfl)) | (apply gq; (apply dz tab; exact rfl; exact rfl; exact rfl; exact rfl; exact rfl; exact rfl; exact rfl; exact rfl)) | (apply je; (apply ik tab; exact rfl; exact rfl; (first | exact (rfl : _ = 2) | exact (rfl : _ = 3)); exact rfl)) | (apply lu; (apply kg (tt := tt); (focus (conv => lhs; whnf); try exact rfl); exact rfl; (first | exact (rfl : _ = 0) | exact (rfl : _ = 1)); exact rfl)) | (apply ak))) | (apply bq; (first | (apply bg) | (apply ah) | (apply df; exact rfl; (assumption)) | (apply dn) | (apply ed))) | (apply bf) | (apply lq) | (apply om))
    (change gu _ _ _ _ _ _ _; apply fu; (exact .inr rfl); (focus (repeat' (first | (apply mr; exact rfl; exact rfl; exact rfl; (focus (conv => lhs; whnf; arg 1; whnf; arg 2; whnf); try skip); (exact nlb rfl)) | exact iq))); exact rfl; (exact rfl); exact Nat.le_refl _; (focus (repeat' (first | exact trivial | refine ⟨?_, ?_⟩))); exact hso)
    exact ⟨rfl, rfl⟩
  have e1 : (c.kind == 1) = false := by simpa using k1
  by_cases k2 : c.kind = 2
  · have e2 : (c.kind == 2) = true := by simpa using k2
    have w := al9 x c hl hn
    rw [au6 k2]
    generalize xx x c ahr = D at *
    obtain ⟨Y, R⟩ := D
    dsimp only at w ⊢
    repeat' (first | (apply bn; (first | (apply ai; (apply az (tt := tt); (focus (conv => lhs; whnf); try exact rfl); exact rfl)) | (apply ji; (refine cz (tt := tt) ay3 (w _) rfl rfl rfl rfl rfl ?_)) | (apply dw; (apply di true tab; (focus (conv => lhs; whnf; arg 1; whnf; arg 2; whnf); try exact rfl); (exact trivial); exact rfl)) | (apply fq; (apply aa; (apply aj tab; exact rfl; exact rfl; exact rfl; (focus (conv => lhs; whnf; arg 1; whnf; arg 2; whnf); try skip); (first | exact trivial | exact nlb rfl)); (intro c h; cases h); exact rfl)) | (apply cu; (apply aa; (apply af tab; exact rfl; (focus (conv => lhs; whnf); try exact rfl); exact rfl; (exact (rfl : _ = 0))); (intro c h; cases h); exact rfl)) | (apply iw; (apply iy (tt := tt); (focus (conv => lhs; whnf; arg 1; whnf; arg 2; whnf); try exact rfl); (exact trivial); exact rfl)) | (apply gq; (apply dz tab; exact rfl; exact rfl; exact rfl; exact rfl; exact rfl; exact rfl; exact rfl; exact rfl)) | (apply je; (apply ik tab; exact rfl; exact rfl; (first | exact (rfl : _ = 2) | exact (rfl : _ = 3)); exact rfl)) | (apply lu; (apply kg (tt := tt); (focus (conv => lhs; whnf); try exact rfl); exact rfl; (first | exact (rfl : _ = 0) | exact (rfl : _ = 1)); exact rfl)) | (apply ak))) | (apply bq; (first | (apply bg) | (apply ah) | (apply df; exact rfl; (assumption)) | (apply dm; exact rfl; (assumption)) | (apply dn) | (apply ed))) | (apply bf) | (apply lq) | (apply om))
    (change gu _ _ _ _ _ _ _; apply fu; (exact .inr rfl); (focus (repeat' (first | (apply mr; exact rfl; exact rfl; exact rfl; (focus (conv => lhs; whnf; arg 1; whnf; arg 2; whnf); try skip); (exact nlb rfl)) | exact iq))); exact rfl; (exact rfl); exact Nat.le_refl _; (focus (repeat' (first | exact trivial | refine ⟨?_, ?_⟩))); exact hso)
    exact ⟨rfl, rfl⟩
  have e2 : (c.kind == 2) = false := by simpa using k2
  by_cases k3 : c.kind = 3
  · have e3 : (c.kind == 3) = true := by simpa using k3
    have w := atu x c hl hnl hx.parts ho hn
    rw [avt k3]
    generalize aco x c = D at *
    obtain ⟨Y, R⟩ := D
    dsimp only at w ⊢
    repeat' (first | (apply bn; (first | (apply ai; (apply az (tt := tt); (focus (conv => lhs; whnf); try exact rfl); exact rfl)) | (apply ji; (refine cz (tt := tt) azf (w _) rfl rfl rfl rfl rfl ?_)) | (apply dw; (apply di true tab; (focus (conv => lhs; whnf; arg 1; whnf; arg 2; whnf); try exact rfl); (exact trivial); exact rfl)) | (apply fq; (apply aa; (apply aj tab; exact rfl; exact rfl; exact rfl; (focus (conv => lhs; whnf; arg 1; whnf; arg 2; whnf); try skip); (first | exact trivial | exact nlb rfl)); (intro c h; cases h); exact rfl)) | (apply cu; (apply aa; (apply af tab; exact rfl; (focus (conv => lhs; whnf); try exact rfl); exact rfl; (exact (rfl : _ = 0))); (intro c h; cases h); exact rfl)) | (apply iw; (apply iy (tt := tt); (focus (conv => lhs; whnf; arg 1; whnf; arg 2; whnf); try exact rfl); (exact trivial); exact rfl)) | (apply gq; (apply dz tab; exact rfl; exact rfl; exact rfl; exact rfl; exact rfl; exact rfl; exact rfl; exact rfl)) | (apply je; (apply ik tab; exact rfl; exact rfl; (first | exact (rfl : _ = 2) | exact (rfl : _ = 3)); exact rfl)) | (apply lu; (apply kg (tt := tt); (focus (conv => lhs; whnf); try exact rfl); exact rfl; (first | exact (rfl : _ = 0) | exact (rfl : _ = 1)); exact rfl)) | (apply ak))) | (apply bq; (first | (apply bg) | (apply ah) | (apply df; exact rfl; (assumption)) | (apply dm; exact rfl; (assumption)) | (apply dn) | (apply ed))) | (apply bf) | (apply lq) | (apply om))
    (change gu _ _ _ _ _ _ _; apply fu; (exact .inr rfl); (focus (repeat' (first | (apply mr; exact rfl; exact rfl; exact rfl; (focus (conv => lhs; whnf; arg 1; whnf; arg 2; whnf); try skip); (exact nlb rfl)) | exact iq))); exact rfl; (exact rfl); exact Nat.le_refl _; (focus (repeat' (first | exact trivial | refine ⟨?_, ?_⟩))); exact hso)
    exact ⟨rfl, rfl⟩
  have e3 : (c.kind == 3) = false := by simpa using k3
  by_cases k4 : c.kind = 4
  · have e4 : (c.kind == 4) = true := by simpa using k4
    have w := ary x c hnl (by omega)
    rw [au3 k4]
    generalize aas x c = D at *
    obtain ⟨Y, R⟩ := D
    dsimp only at w ⊢
    repeat' (first | (apply bn; (first | (apply ai; (apply az (tt := tt); (focus (conv => lhs; whnf); try exact rfl); exact rfl)) | (apply ji; (refine cz (tt := tt) aya (w _) rfl rfl rfl rfl rfl ?_)) | (apply dw; (apply di true tab; (focus (conv => lhs; whnf; arg 1; whnf; arg 2; whnf); try exact rfl); (exact trivial); exact rfl)) | (apply fq; (apply aa; (apply aj tab; exact rfl; exact rfl; exact rfl; (focus (conv => lhs; whnf; arg 1; whnf; arg 2; whnf); try skip); (first | exact trivial | exact nlb rfl)); (intro c h; cases h); exact rfl)) | (apply cu; (apply aa; (apply af tab; exact rfl; (focus (conv => lhs; whnf); try exact rfl); exact rfl; (exact (rfl : _ = 0))); (intro c h; cases h); exact rfl)) | (apply iw; (apply iy (tt := tt); (focus (conv => lhs; whnf; arg 1; whnf; arg 2; whnf); try exact rfl); (exact trivial); exact rfl)) | (apply gq; (apply dz tab; exact rfl; exact rfl; exact rfl; exact rfl; exact rfl; exact rfl; exact rfl; exact rfl)) | (apply je; (apply ik tab; exact rfl; exact rfl; (first | exact (rfl : _ = 2) | exact (rfl : _ = 3)); exact rfl)) | (apply lu; (apply kg (tt := tt); (focus (conv => lhs; whnf); try exact rfl); exact rfl; (first | exact (rfl : _ = 0) | exact (rfl : _ = 1)); exact rfl)) | (apply ak))) | (apply bq; (first | (apply bg) | (apply ah) | (apply df; exact rfl; (assumption)) | (apply dm; exact rfl; (assumption)) | (apply dn) | (apply ed))) | (apply bf) | (apply lq) | (apply om))
    (change gu _ _ _ _ _ _ _; apply fu; (exact .inr rfl); (focus (repeat' (first | (apply mr; exact rfl; exact rfl; exact rfl; (focus (conv => lhs; whnf; arg 1; whnf; arg 2; whnf); try skip); (exact nlb rfl)) | exact iq))); exact rfl; (exact rfl); exact Nat.le_refl _; (focus (repeat' (first | exact trivial | refine ⟨?_, ?_⟩))); exact hso)
    exact ⟨rfl, rfl⟩
  have e4 : (c.kind == 4) = false := by simpa using k4
  by_cases k5 : c.kind = 5
  · have e5 : (c.kind == 5) = true := by simpa using k5
    have w := ase x c hnl k5
    rw [avx k5]
    generalize aas x c = D at *
    obtain ⟨Y, R⟩ := D
    dsimp only at w ⊢
    repeat' (first | (apply bn; (first | (apply ai; (apply az (tt := tt); (focus (conv => lhs; whnf); try exact rfl); exact rfl)) | (apply ji; (refine cz (tt := tt) aze (w _) rfl rfl rfl rfl rfl ?_)) | (apply dw; (apply di true tab; (focus (conv => lhs; whnf; arg 1; whnf; arg 2; whnf); try exact rfl); (exact trivial); exact rfl)) | (apply fq; (apply aa; (apply aj tab; exact rfl; exact rfl; exact rfl; (focus (conv => lhs; whnf; arg 1; whnf; arg 2; whnf); try skip); (first | exact trivial | exact nlb rfl)); (intro c h; cases h); exact rfl)) | (apply cu; (apply aa; (apply af tab; exact rfl; (focus (conv => lhs; whnf); try exact rfl); exact rfl; (exact (rfl : _ = 0))); (intro c h; cases h); exact rfl)) | (apply iw; (apply iy (tt := tt); (focus (conv => lhs; whnf; arg 1; whnf; arg 2; whnf); try exact rfl); (exact trivial); exact rfl)) | (apply gq; (apply dz tab; exact rfl; exact rfl; exact rfl; exact rfl; exact rfl; exact rfl; exact rfl; exact rfl)) | (apply je; (apply ik tab; exact rfl; exact rfl; (first | exact (rfl : _ = 2) | exact (rfl : _ = 3)); exact rfl)) | (apply lu; (apply kg (tt := tt); (focus (conv => lhs; whnf); try exact rfl); exact rfl; (first | exact (rfl : _ = 0) | exact (rfl : _ = 1)); exact rfl)) | (apply ak))) | (apply bq; (first | (apply bg) | (apply ah) | (apply df; exact rfl; (assumption)) | (apply dm; exact rfl; (assumption)) | (apply dn) | (apply ed))) | (apply bf) | (apply lq) | (apply om))
    (change gu _ _ _ _ _ _ _; apply fu; (exact .inr rfl); (focus (repeat' (first | (apply mr; exact rfl; exact rfl; exact rfl; (focus (conv => lhs; whnf; arg 1; whnf; arg 2; whnf); try skip); (exact nlb rfl)) | exact iq))); exact rfl; (exact rfl); exact Nat.le_refl _; (focus (repeat' (first | exact trivial | refine ⟨?_, ?_⟩))); exact hso)
    exact ⟨rfl, rfl⟩
  have e5 : (c.kind == 5) = false := by simpa using k5
  by_cases k6 : c.kind = 6
  · have e6 : (c.kind == 6) = true := by simpa using k6
    have w := art x c hl
    rw [avp k6]
    generalize xx x c aga = D at *
    obtain ⟨Y, R⟩ := D
    dsimp only at w ⊢
    repeat' (first | (apply bn; (first | (apply ai; (apply az (tt := tt); (focus (conv => lhs; whnf); try exact rfl); exact rfl)) | (apply ji; (refine cz (tt := tt) ax8 (w _) rfl rfl rfl rfl rfl ?_)) | (apply dw; (apply di true tab; (focus (conv => lhs; whnf; arg 1; whnf; arg 2; whnf); try exact rfl); (exact trivial); exact rfl)) | (apply fq; (apply aa; (apply aj tab; exact rfl; exact rfl; exact rfl; (focus (conv => lhs; whnf; arg 1; whnf; arg 2; whnf); try skip); (first | exact trivial | exact nlb rfl)); (intro c h; cases h); exact rfl)) | (apply cu; (apply aa; (apply af tab; exact rfl; (focus (conv => lhs; whnf); try exact rfl); exact rfl; (exact (rfl : _ = 0))); (intro c h; cases h); exact rfl)) | (apply iw; (apply iy (tt := tt); (focus (conv => lhs; whnf; arg 1; whnf; arg 2; whnf); try exact rfl); (exact trivial); exact rfl)) | (apply gq; (apply dz tab; exact rfl; exact rfl; exact rfl; exact rfl; exact rfl; exact rfl; exact rfl; exact rfl)) | (apply je; (apply ik tab; exact rfl; exact rfl; (first | exact (rfl : _ = 2) | exact (rfl : _ = 3)); exact rfl)) | (apply lu; (apply kg (tt := tt); (focus (conv => lhs; whnf); try exact rfl); exact rfl; (first | exact (rfl : _ = 0) | exact (rfl : _ = 1)); exact rfl)) | (apply ak))) | (apply bq; (first | (apply bg) | (apply ah) | (apply df; exact rfl; (assumption)) | (apply dm; exact rfl; (assumption)) | (apply dn) | (apply ed))) | (apply bf) | (apply lq) | (apply om))
    (change gu _ _ _ _ _ _ _; apply fu; (exact .inr rfl); (focus (repeat' (first | (apply mr; exact rfl; exact rfl; exact rfl; (focus (conv => lhs; whnf; arg 1; whnf; arg 2; whnf); try skip); (exact nlb rfl)) | exact iq))); exact rfl; (exact rfl); exact Nat.le_refl _; (focus (repeat' (first | exact trivial | refine ⟨?_, ?_⟩))); exact hso)
    exact ⟨rfl, rfl⟩
  have e6 : (c.kind == 6) = false := by simpa using k6
  by_cases k7 : c.kind = 7
  · have e7 : (c.kind == 7) = true := by simpa using k7
    have w := ar7 x c hl hcp
    rw [avr k7]
    generalize xx x c afr = D at *
    obtain ⟨Y, R⟩ := D
    dsimp only at w ⊢
    repeat' (first | (apply bn; (first | (apply ai; (apply az (tt := tt); (focus (conv => lhs; whnf); try exact rfl); exact rfl)) | (apply ji; (refine cz (tt := tt) ay6 (w _) rfl rfl rfl rfl rfl ?_)) | (apply dw; (apply di true tab; (focus (conv => lhs; whnf; arg 1; whnf; arg 2; whnf); try exact rfl); (exact trivial); exact rfl)) | (apply fq; (apply aa; (apply aj tab; exact rfl; exact rfl; exact rfl; (focus (conv => lhs; whnf; arg 1; whnf; arg 2; whnf); try skip); (first | exact trivial | exact nlb rfl)); (intro c h; cases h); exact rfl)) | (apply cu; (apply aa; (apply af tab; exact rfl; (focus (conv => lhs; whnf); try exact rfl); exact rfl; (exact (rfl : _ = 0))); (intro c h; cases h); exact rfl)) | (apply iw; (apply iy (tt := tt); (focus (conv => lhs; whnf; arg 1; whnf; arg 2; whnf); try exact rfl); (exact trivial); exact rfl)) | (apply gq; (apply dz tab; exact rfl; exact rfl; exact rfl; exact rfl; exact rfl; exact rfl; exact rfl; exact rfl)) | (apply je; (apply ik tab; exact rfl; exact rfl; (first | exact (rfl : _ = 2) | exact (rfl : _ = 3)); exact rfl)) | (apply lu; (apply kg (tt := tt); (focus (conv => lhs; whnf); try exact rfl); exact rfl; (first | exact (rfl : _ = 0) | exact (rfl : _ = 1)); exact rfl)) | (apply ak))) | (apply bq; (first | (apply bg) | (apply ah) | (apply df; exact rfl; (assumption)) | (apply dm; exact rfl; (assumption)) | (apply dn) | (apply ed))) | (apply bf) | (apply lq) | (apply om))
    (change gu _ _ _ _ _ _ _; apply fu; (exact .inr rfl); (focus (repeat' (first | (apply mr; exact rfl; exact rfl; exact rfl; (focus (conv => lhs; whnf; arg 1; whnf; arg 2; whnf); try skip); (exact nlb rfl)) | exact iq))); exact rfl; (exact rfl); exact Nat.le_refl _; (focus (repeat' (first | exact trivial | refine ⟨?_, ?_⟩))); exact hso)
    exact ⟨rfl, rfl⟩
  have e7 : (c.kind == 7) = false := by simpa using k7
  by_cases k8 : c.kind = 8
  · have e8 : (c.kind == 8) = true := by simpa using k8
    have w := asb x c hx.vols hcp
    rw [avo k8]
    generalize ae3 x c = D at *
    obtain ⟨Y, R⟩ := D
    dsimp only at w ⊢
    repeat' (first | (apply bn; (first | (apply ai; (apply az (tt := tt); (focus (conv => lhs; whnf); try exact rfl); exact rfl)) | (apply ji; (refine cz (tt := tt) azd (w _) rfl rfl rfl rfl rfl ?_)) | (apply dw; (apply di true tab; (focus (conv => lhs; whnf; arg 1; whnf; arg 2; whnf); try exact rfl); (exact trivial); exact rfl)) | (apply fq; (apply aa; (apply aj tab; exact rfl; exact rfl; exact rfl; (focus (conv => lhs; whnf; arg 1; whnf; arg 2; whnf); try skip); (first | exact trivial | exact nlb rfl)); (intro c h; cases h); exact rfl)) | (apply cu; (apply aa; (apply af tab; exact rfl; (focus (conv => lhs; whnf); try exact rfl); exact rfl; (exact (rfl : _ = 0))); (intro c h; cases h); exact rfl)) | (apply iw; (apply iy (tt := tt); (focus (conv => lhs; whnf; arg 1; whnf; arg 2; whnf); try exact rfl); (exact trivial); exact rfl)) | (apply gq; (apply dz tab; exact rfl; exact rfl; exact rfl; exact rfl; exact rfl; exact rfl; exact rfl; exact rfl)) | (apply je; (apply ik tab; exact rfl; exact rfl; (first | exact (rfl : _ = 2) | exact (rfl : _ = 3)); exact rfl)) | (apply lu; (apply kg (tt := tt); (focus (conv => lhs; whnf); try exact rfl); exact rfl; (first | exact (rfl : _ = 0) | exact (rfl : _ = 1)); exact rfl)) | (apply ak))) | (apply bq; (first | (apply bg) | (apply ah) | (apply df; exact rfl; (assumption)) | (apply dm; exact rfl; (assumption)) | (apply dn) | (apply ed))) | (apply bf) | (apply lq) | (apply om))
    (change gu _ _ _ _ _ _ _; apply fu; (exact .inr rfl); (focus (repeat' (first | (apply mr; exact rfl; exact rfl; exact rfl; (focus (conv => lhs; whnf; arg 1; whnf; arg 2; whnf); try skip); (exact nlb rfl)) | exact iq))); exact rfl; (exact rfl); exact Nat.le_refl _; (focus (repeat' (first | exact trivial | refine ⟨?_, ?_⟩))); exact hso)
    exact ⟨rfl, rfl⟩
  have e8 : (c.kind == 8) = false := by simpa using k8
  have w := ar9 x c hx hi hcp
  rw [avi k1 k2 k3 k4 k5 k6 k7 k8]
  generalize xx x c ach = D at *
  obtain ⟨Y, R⟩ := D
  dsimp only at w ⊢
  repeat' (first | (apply bn; (first | (apply ai; (apply az (tt := tt); (focus (conv => lhs; whnf); try exact rfl); exact rfl)) | (apply ji; (refine cz (tt := tt) ay9 (w _) rfl rfl rfl rfl rfl ?_)) | (apply dw; (apply di true tab; (focus (conv => lhs; whnf; arg 1; whnf; arg 2; whnf); try exact rfl); (exact trivial); exact rfl)) | (apply fq; (apply aa; (apply aj tab; exact rfl; exact rfl; exact rfl; (focus (conv => lhs; whnf; arg 1; whnf; arg 2; whnf); try skip); (first | exact trivial | exact nlb rfl)); (intro c h; cases h); exact rfl)) | (apply cu; (apply aa; (apply af tab; exact rfl; (focus (conv => lhs; whnf); try exact rfl); exact rfl; (exact (rfl : _ = 0))); (intro c h; cases h); exact rfl)) | (apply iw; (apply iy (tt := tt); (focus (conv => lhs; whnf; arg 1; whnf; arg 2; whnf); try exact rfl); (exact trivial); exact rfl)) | (apply gq; (apply dz tab; exact rfl; exact rfl; exact rfl; exact rfl; exact rfl; exact rfl; exact rfl; exact rfl)) | (apply je; (apply ik tab; exact rfl; exact rfl; (first | exact (rfl : _ = 2) | exact (rfl : _ = 3)); exact rfl)) | (apply lu; (apply kg (tt := tt); (focus (conv => lhs; whnf); try exact rfl); exact rfl; (first | exact (rfl : _ = 0) | exact (rfl : _ = 1)); exact rfl)) | (apply ak))) | (apply bq; (first | (apply bg) | (apply ah) | (apply dm; exact rfl; (assumption)) | (apply gz) | (apply dn) | (apply ed))) | (apply bf) | (apply ng))
  (change gu _ _ _ _ _ _ _; apply fu; (exact .inr rfl); (focus (repeat' (first | (apply mr; exact rfl; exact rfl; exact rfl; (focus (conv => lhs; whnf; arg 1; whnf; arg 2; whnf); try skip); (exact nlb rfl)) | exact iq))); exact rfl; (exact rfl); exact Nat.le_refl _; (focus (repeat' (first | exact trivial | refine ⟨?_, ?_⟩))); exact hso)
  exact ⟨rfl, rfl⟩
end Go.Proofs.Ytbpjaiemlkcccaa.Pv
end
section
/- Which commands may be, by the program itself. -/
namespace Go.Proofs.Ytbpjaiemlkcccaa.Pv
open Go
set_option maxRecDepth 100000
def vi (z : Int) : PV := .int .i64 z
theorem aj0 {g : FuncId} {caps : List PV} (p : Int × Int → Bool) (xs : List (Int × Int)) (hl : xs.length ≤ 9223372036854775807) (σ : Sto) (hg : jd Try.prog g) (hf : ∀ x ∈ xs, jo Try.prog g (plc x :: caps) σ fun r σ' => r = .bool (p x) ∧ σ' = σ) (htup : (caps.all fun p => !p.isTup) = true) :
    jo Try.prog 71 [.sl .sh 2 (xs.map plc), .fn (.func g) [] caps] σ fun x σ' => x = .int .i64 (qc p xs) ∧ σ' = σ := by
  refine ny tab Try.func71 rfl (nlb rfl) (by decide) fun hso => ?_
  repeat' (first | (apply bn; (first | (apply bv; (apply bu (tt := tt); (focus (conv => lhs; whnf); try exact rfl); exact rfl)) | (apply ai; (apply az (tt := tt); (focus (conv => lhs; whnf); try exact rfl); exact rfl)) | (apply jr; (apply ni tab; (focus (conv => lhs; whnf; arg 1; whnf; arg 2; whnf); try exact rfl); (exact trivial); exact rfl)) | (apply ak))) | (apply bq; (first | (apply bg) | (apply ah) | (apply ed))) | (apply bf))
  refine ve (fun i : Nat => [(0, .sl .sh 2 (xs.map plc)), (1, .fn (.func g) [] caps), (7, .int .i64 xs.length), (8, .int .i64 i)]) (fun _ => σ) (fun i => i ≤ xs.length ∧ ∀ j, j < i → p (xs.getD j default) = false) (fun i => xs.length - i) 0 ⟨Nat.zero_le _, fun j hj => by omega⟩ ?_ rfl ?_
  · (repeat' (first | exact trivial | exact Wk.same _ | (refine Wk.eq ?_; (conv => rhs; whnf); simp <;> fail) | refine ⟨?_, ?_⟩))
  rintro i ⟨hi, hno⟩
  rcases Nat.lt_or_ge i xs.length with hlt | hge
  · have c1 : decide ((i : Int) < (xs.length : Int)) = true := by simp; omega
    repeat' (first | (apply bn; (first | (apply bv; (apply bu (tt := tt); (focus (conv => lhs; whnf); try exact rfl); exact rfl)) | (apply ai; (apply az (tt := tt); (focus (conv => lhs; whnf); try exact rfl); exact rfl)) | (apply dw; (apply di true tab; (focus (conv => lhs; whnf; arg 1; whnf; arg 2; whnf); try exact rfl); (exact trivial); exact rfl)) | (apply fq; (apply ou tab; (focus (conv => lhs; whnf; arg 1; whnf; arg 2; whnf); try skip); (exact nlb rfl); exact rfl)) | (apply j5; (refine lw (tI := 3) _ tab rfl (by (focus (conv => lhs; whnf); try exact rfl)) (by (focus (conv => lhs; whnf); try exact rfl)) rfl (by (omega)) (by (omega)) (by (focus (conv => lhs; whnf); try exact rfl)) (ltn rfl) ?_)) | (apply ak))) | (apply bq; (first | (apply bg) | (apply ah) | (apply df; exact rfl; (assumption)) | (apply gz) | (apply ed))) | (apply bf))
    refine adh (tt := tt) hg (hf _ (uq hlt)) rfl rfl rfl (by simpa [PV.isTup, plc] using htup) rfl ?_
    repeat' (first | (apply bn; (first | (apply bv; (apply bu (tt := tt); (focus (conv => lhs; whnf); try exact rfl); exact rfl)) | (apply ai; (apply az (tt := tt); (focus (conv => lhs; whnf); try exact rfl); exact rfl)) | (apply dw; (apply di true tab; (focus (conv => lhs; whnf; arg 1; whnf; arg 2; whnf); try exact rfl); (simp only [InR]; omega); exact rfl)) | (apply ak))) | (apply bq; (first | (apply bg) | (apply ah) | (apply qo; exact (rfl : _ = PV.bool _); all_goals intro hb) | (apply gz) | (apply dn))) | (apply bf) | (apply lq) | (apply ng) | (apply om))
    · (change gu _ _ _ _ _ _ _; apply fu; (exact .inr rfl); (focus (repeat' (first | (apply lc; (focus (conv => lhs; whnf); try exact rfl); (exact Wk.same _)) | exact iq))); exact rfl; (exact (List.append_nil _).symm); exact Nat.le_refl _; (focus (repeat' (first | exact trivial | refine ⟨?_, ?_⟩))); exact hso)
      exact ⟨by rw [aay hlt hno hb]; rfl, rfl⟩
    · refine ⟨i + 1, ⟨by omega, fun j hj => ?_⟩, by omega, ?_, rfl⟩
      · by_cases e : j = i
        · subst e; exact hb
        · exact hno j (by omega)
      · (repeat' (first | exact trivial | exact Wk.same _ | refine ⟨?_, ?_⟩))
  · have c1 : decide ((i : Int) < (xs.length : Int)) = false := by simp; omega
    repeat' (first | (apply bn; (first | (apply ai; (apply az (tt := tt); (focus (conv => lhs; whnf); try exact rfl); exact rfl)) | (apply dw; (apply di true tab; (focus (conv => lhs; whnf; arg 1; whnf; arg 2; whnf); try exact rfl); (exact trivial); exact rfl)) | (apply ak))) | (apply bq; (first | (apply bg) | (apply ah) | (apply dm; exact rfl; (assumption)) | (apply dn) | (apply oo))) | (apply bf) | (apply o9) | (apply pg))
    (change gu _ _ _ _ _ _ _; apply fu; (exact .inr rfl); (focus (repeat' (first | (apply lc; (focus (conv => lhs; whnf); try exact rfl); (exact Wk.same _)) | exact iq))); exact rfl; (exact (List.append_nil _).symm); exact Nat.le_refl _; (focus (repeat' (first | exact trivial | refine ⟨?_, ?_⟩))); exact hso)
    exact ⟨by rw [acs fun j hj => hno j (by omega)]; rfl, rfl⟩
theorem akh {g : FuncId} {caps : List PV} (p : Int → Bool) (xs : List (Int)) (hl : xs.length ≤ 9223372036854775807) (σ : Sto) (hg : jd Try.prog g) (hf : ∀ x ∈ xs, jo Try.prog g (vi x :: caps) σ fun r σ' => r = .bool (p x) ∧ σ' = σ) (htup : (caps.all fun p => !p.isTup) = true) :
    jo Try.prog 72 [.sl .sh 1 (xs.map vi), .fn (.func g) [] caps] σ fun x σ' => x = .int .i64 (qc p xs) ∧ σ' = σ := by
  refine ny tab Try.func72 rfl (nlb rfl) (by decide) fun hso => ?_
  repeat' (first | (apply bn; (first | (apply bv; (apply bu (tt := tt); (focus (conv => lhs; whnf); try exact rfl); exact rfl)) | (apply ai; (apply az (tt := tt); (focus (conv => lhs; whnf); try exact rfl); exact rfl)) | (apply jr; (apply ni tab; (focus (conv => lhs; whnf; arg 1; whnf; arg 2; whnf); try exact rfl); (exact trivial); exact rfl)) | (apply ak))) | (apply bq; (first | (apply bg) | (apply ah) | (apply ed))) | (apply bf))
  refine ve (fun i : Nat => [(0, .sl .sh 1 (xs.map vi)), (1, .fn (.func g) [] caps), (7, .int .i64 xs.length), (8, .int .i64 i)]) (fun _ => σ) (fun i => i ≤ xs.length ∧ ∀ j, j < i → p (xs.getD j default) = false) (fun i => xs.length - i) 0 ⟨Nat.zero_le _, fun j hj => by omega⟩ ?_ rfl ?_
  · (repeat' (first | exact trivial | exact Wk.same _ | (refine Wk.eq ?_; (conv => rhs; whnf); simp <;> fail) | refine ⟨?_, ?_⟩))
  rintro i ⟨hi, hno⟩
  rcases Nat.lt_or_ge i xs.length with hlt | hge
  · have c1 : decide ((i : Int) < (xs.length : Int)) = true := by simp; omega
    repeat' (first | (apply bn; (first | (apply bv; (apply bu (tt := tt); (focus (conv => lhs; whnf); try exact rfl); exact rfl)) | (apply ai; (apply az (tt := tt); (focus (conv => lhs; whnf); try exact rfl); exact rfl)) | (apply dw; (apply di true tab; (focus (conv => lhs; whnf; arg 1; whnf; arg 2; whnf); try exact rfl); (exact trivial); exact rfl)) | (apply fq; (apply ou tab; (focus (conv => lhs; whnf; arg 1; whnf; arg 2; whnf); try skip); (exact trivial); exact rfl)) | (apply j5; (refine lw (tI := 3) _ tab rfl (by (focus (conv => lhs; whnf); try exact rfl)) (by (focus (conv => lhs; whnf); try exact rfl)) rfl (by (omega)) (by (omega)) (by (focus (conv => lhs; whnf); try exact rfl)) (ltn rfl) ?_)) | (apply ak))) | (apply bq; (first | (apply bg) | (apply ah) | (apply df; exact rfl; (assumption)) | (apply gz) | (apply ed))) | (apply bf))
    refine adh (tt := tt) hg (hf _ (uq hlt)) rfl rfl rfl (by simpa [PV.isTup, vi] using htup) rfl ?_
    repeat' (first | (apply bn; (first | (apply bv; (apply bu (tt := tt); (focus (conv => lhs; whnf); try exact rfl); exact rfl)) | (apply ai; (apply az (tt := tt); (focus (conv => lhs; whnf); try exact rfl); exact rfl)) | (apply dw; (apply di true tab; (focus (conv => lhs; whnf; arg 1; whnf; arg 2; whnf); try exact rfl); (simp only [InR]; omega); exact rfl)) | (apply ak))) | (apply bq; (first | (apply bg) | (apply ah) | (apply qo; exact (rfl : _ = PV.bool _); all_goals intro hb) | (apply gz) | (apply dn))) | (apply bf) | (apply lq) | (apply ng) | (apply om))
    · (change gu _ _ _ _ _ _ _; apply fu; (exact .inr rfl); (focus (repeat' (first | (apply lc; (focus (conv => lhs; whnf); try exact rfl); (exact Wk.same _)) | exact iq))); exact rfl; (exact (List.append_nil _).symm); exact Nat.le_refl _; (focus (repeat' (first | exact trivial | refine ⟨?_, ?_⟩))); exact hso)
      exact ⟨by rw [aay hlt hno hb]; rfl, rfl⟩
    · refine ⟨i + 1, ⟨by omega, fun j hj => ?_⟩, by omega, ?_, rfl⟩
      · by_cases e : j = i
        · subst e; exact hb
        · exact hno j (by omega)
      · (repeat' (first | exact trivial | exact Wk.same _ | refine ⟨?_, ?_⟩))
  · have c1 : decide ((i : Int) < (xs.length : Int)) = false := by simp; omega
    repeat' (first | (apply bn; (first | (apply ai; (apply az (tt := tt); (focus (conv => lhs; whnf); try exact rfl); exact rfl)) | (apply dw; (apply di true tab; (focus (conv => lhs; whnf; arg 1; whnf; arg 2; whnf); try exact rfl); (exact trivial); exact rfl)) | (apply ak))) | (apply bq; (first | (apply bg) | (apply ah) | (apply dm; exact rfl; (assumption)) | (apply dn) | (apply oo))) | (apply bf) | (apply o9) | (apply pg))
    (change gu _ _ _ _ _ _ _; apply fu; (exact .inr rfl); (focus (repeat' (first | (apply lc; (focus (conv => lhs; whnf); try exact rfl); (exact Wk.same _)) | exact iq))); exact rfl; (exact (List.append_nil _).symm); exact Nat.le_refl _; (focus (repeat' (first | exact trivial | refine ⟨?_, ?_⟩))); exact hso)
    exact ⟨by rw [acs fun j hj => hno j (by omega)]; rfl, rfl⟩
theorem anu {α : Type} {p : α → Bool} {xs : List α} : decide (0 ≤ qc p xs) = xs.any p := by
  rcases abg p xs with ⟨e, h⟩ | ⟨q, y, e1, e2, e3, e4⟩
  · rw [e, List.any_eq_false.2 fun y hy => by rw [h y hy]; exact Bool.false_ne_true]; rfl
  · rw [e1, List.any_eq_true.2 ⟨y, List.mem_of_getElem? e2, e3⟩, decide_eq_true (Int.natCast_nonneg q)]
theorem ajk {g : FuncId} {caps : List PV} (p : Int × Int → Bool) (xs : List (Int × Int)) (hl : xs.length ≤ 1048576) (σ : Sto) (hg : jd Try.prog g) (hf : ∀ x ∈ xs, jo Try.prog g (plc x :: caps) σ fun r σ' => r = .bool (p x) ∧ σ' = σ) (htup : (caps.all fun p => !p.isTup) = true) :
    jo Try.prog 58 [.sl .sh 2 (xs.map plc), .fn (.func g) [] caps] σ fun x σ' => x = .bool (xs.any p) ∧ σ' = σ := by
  refine ny tab Try.func58 rfl (nlb rfl) (by decide) fun hso => ?_
  rw [← anu]
  repeat' (first | (apply bn; (first | (apply bv; (apply bu (tt := tt); (focus (conv => lhs; whnf); try exact rfl); exact rfl)) | (apply ai; (apply az (tt := tt); (focus (conv => lhs; whnf); try exact rfl); exact rfl)) | (apply ak))) | (apply bq; (first | (apply bg) | (apply ah))) | (apply bf))
  refine cz (tt := tt) ayw (aj0 p xs (by omega) _ hg hf htup) rfl rfl rfl rfl rfl ?_
  repeat' (first | (apply bn; (first | (apply ai; (apply az (tt := tt); (focus (conv => lhs; whnf); try exact rfl); exact rfl)) | (apply dw; (apply di true tab; (focus (conv => lhs; whnf; arg 1; whnf; arg 2; whnf); try exact rfl); (exact trivial); exact rfl)) | (apply ak))) | (apply bq; (apply dn)) | (apply bf))
  (change gu _ _ _ _ _ _ _; apply fu; (exact .inr rfl); (focus (repeat' (first | (apply lc; (focus (conv => lhs; whnf); try exact rfl); (exact Wk.same _)) | exact iq))); exact rfl; (exact (List.append_nil _).symm); exact Nat.le_refl _; (focus (repeat' (first | exact trivial | refine ⟨?_, ?_⟩))); exact hso)
  exact ⟨rfl, rfl⟩
theorem ake {g : FuncId} {caps : List PV} (p : Int → Bool) (xs : List Int) (hl : xs.length ≤ 1048576) (σ : Sto) (hg : jd Try.prog g) (hf : ∀ x ∈ xs, jo Try.prog g (vi x :: caps) σ fun r σ' => r = .bool (p x) ∧ σ' = σ) (htup : (caps.all fun p => !p.isTup) = true) :
    jo Try.prog 59 [.sl .sh 1 (xs.map vi), .fn (.func g) [] caps] σ fun x σ' => x = .bool (xs.any p) ∧ σ' = σ := by
  refine ny tab Try.func59 rfl (nlb rfl) (by decide) fun hso => ?_
  rw [← anu]
  repeat' (first | (apply bn; (first | (apply bv; (apply bu (tt := tt); (focus (conv => lhs; whnf); try exact rfl); exact rfl)) | (apply ai; (apply az (tt := tt); (focus (conv => lhs; whnf); try exact rfl); exact rfl)) | (apply ak))) | (apply bq; (first | (apply bg) | (apply ah))) | (apply bf))
  refine cz (tt := tt) azi (akh p xs (by omega) _ hg hf htup) rfl rfl rfl rfl rfl ?_
  repeat' (first | (apply bn; (first | (apply ai; (apply az (tt := tt); (focus (conv => lhs; whnf); try exact rfl); exact rfl)) | (apply dw; (apply di true tab; (focus (conv => lhs; whnf; arg 1; whnf; arg 2; whnf); try exact rfl); (exact trivial); exact rfl)) | (apply ak))) | (apply bq; (apply dn)) | (apply bf))
  (change gu _ _ _ _ _ _ _; apply fu; (exact .inr rfl); (focus (repeat' (first | (apply lc; (focus (conv => lhs; whnf); try exact rfl); (exact Wk.same _)) | exact iq))); exact rfl; (exact (List.append_nil _).symm); exact Nat.le_refl _; (focus (repeat' (first | exact trivial | refine ⟨?_, ?_⟩))); exact hso)
  exact ⟨rfl, rfl⟩
theorem apv (n : Int) (σ : Sto) : jo Try.prog 57 [.int .i64 n] σ fun r σ' => r = .bool (si n) ∧ σ' = σ := by
  refine ny tab Try.func57 rfl (nlb rfl) (by decide) fun hso => oh ?_
  repeat' (first | (apply bn; (first | (apply jq; (first | (apply jc; exact (rfl : _ = some _); exact (rfl : _ = PV.bool _); (assumption)) | (apply ky; exact (rfl : _ = some _); exact (rfl : _ = PV.bool _); (assumption); exact ltn rfl) | (apply qm; exact (rfl : _ = some _); exact (rfl : _ = PV.bool _); all_goals intro hb))) | (apply bv; (apply bu (tt := tt); (focus (conv => lhs; whnf); try exact rfl); exact rfl)) | (apply ai; (apply az (tt := tt); (focus (conv => lhs; whnf); try exact rfl); exact rfl)) | (apply dw; (apply di true tab; (focus (conv => lhs; whnf; arg 1; whnf; arg 2; whnf); try exact rfl); (exact trivial); exact rfl)) | (apply kr; (apply ku (tt := tt); exact (rfl : _ = PV.bool _); (first | refine .inl ⟨by assumption, ?_⟩ | refine .inr ⟨by assumption, ?_⟩); (focus (conv => lhs; whnf); try exact rfl); exact ltn rfl)) | (apply ak))) | (apply bq; (first | (apply bg) | (apply ah) | (apply dn))) | (apply bf))
  all_goals (change gu _ _ _ _ _ _ _; apply fu; (exact .inr rfl); (focus (repeat' (first | (apply lc; (focus (conv => lhs; whnf); try exact rfl); (exact Wk.same _)) | exact iq))); exact rfl; (exact rfl); exact Nat.le_refl _; (focus (repeat' (first | exact trivial | refine ⟨?_, ?_⟩))); exact hso)
  all_goals refine ⟨?_, rfl⟩
  all_goals simp only [decide_eq_true_eq, decide_eq_false_iff_not] at *
  all_goals simp only [abb, si, PV.bool.injEq]
  all_goals first | rfl | (symm; rw [decide_eq_false_iff_not]; omega) | (rw [decide_eq_decide]; omega)
theorem aqr (n : Int) (σ : Sto) : jo Try.prog 56 [vi n] σ fun r σ' => r = .bool (!si n) ∧ σ' = σ := by
  refine ny tab Try.func56 rfl (nlb rfl) (by decide) fun hso => oh ?_
  have h1 := apv n
  repeat' (first | (apply bn; (first | (apply bv; (apply bu (tt := tt); (focus (conv => lhs; whnf); try exact rfl); exact rfl)) | (apply ai; (apply az (tt := tt); (focus (conv => lhs; whnf); try exact rfl); exact rfl)) | (apply ji; (refine cz (tt := tt) ax1 (h1 _) rfl rfl rfl rfl rfl ?_)) | (apply qy; (apply pu (tt := tt) true; (focus (conv => lhs; whnf; arg 1; whnf; arg 2; whnf); try exact rfl); (exact trivial); exact rfl)) | (apply ak))) | (apply bq; (first | (apply bg) | (apply ah) | (apply dn))) | (apply bf))
  (change gu _ _ _ _ _ _ _; apply fu; (exact .inr rfl); (focus (repeat' (first | (apply lc; (focus (conv => lhs; whnf); try exact rfl); (exact Wk.same _)) | exact iq))); exact rfl; (exact rfl); exact Nat.le_refl _; (focus (repeat' (first | exact trivial | refine ⟨?_, ?_⟩))); exact hso)
  exact ⟨rfl, rfl⟩
theorem aqo (p : Int × Int) (σ : Sto) : jo Try.prog 55 [plc p] σ fun r σ' => r = .bool (!adm p) ∧ σ' = σ := by
  refine ny tab Try.func55 rfl (nlb rfl) (by decide) fun hso => oh ?_
  repeat' (first | (apply bn; (first | (apply jq; (first | (apply jc; exact (rfl : _ = some _); exact (rfl : _ = PV.bool _); (assumption)) | (apply ky; exact (rfl : _ = some _); exact (rfl : _ = PV.bool _); (first | exact rfl | assumption); exact ltn rfl) | (apply qm; exact (rfl : _ = some _); exact (rfl : _ = PV.bool _); all_goals intro hb))) | (apply bv; (apply bu (tt := tt); (focus (conv => lhs; whnf); try exact rfl); exact rfl)) | (apply ai; (apply az (tt := tt); (focus (conv => lhs; whnf); try exact rfl); exact rfl)) | (apply dw; (apply di true tab; (focus (conv => lhs; whnf; arg 1; whnf; arg 2; whnf); try exact rfl); (exact trivial); exact rfl)) | (apply kr; (apply ku (tt := tt); exact (rfl : _ = PV.bool _); (first | refine .inl ⟨rfl, ?_⟩ | refine .inl ⟨by assumption, ?_⟩ | refine .inr ⟨by assumption, ?_⟩); (focus (conv => lhs; whnf); try exact rfl); exact ltn rfl)) | (apply fq; (apply aa; (apply aj tab; exact rfl; exact rfl; exact rfl; (focus (conv => lhs; whnf; arg 1; whnf; arg 2; whnf); try skip); (exact trivial)); (intro c h; cases h); exact rfl)) | (apply cu; (apply aa; (apply af tab; exact rfl; (focus (conv => lhs; whnf); try exact rfl); exact rfl; (first | exact (rfl : _ = 0) | exact (rfl : _ = 1))); (intro c h; cases h); exact rfl)) | (apply lu; (apply kg (tt := tt); (focus (conv => lhs; whnf); try exact rfl); exact rfl; (exact (rfl : _ = 0)); exact rfl)) | (apply ak))) | (apply bq; (first | (apply bg) | (apply ah) | (apply dn))) | (apply bf))
  all_goals (change gu _ _ _ _ _ _ _; apply fu; (exact .inr rfl); (focus (repeat' (first | (apply lc; (focus (conv => lhs; whnf); try exact rfl); (exact Wk.same _)) | exact iq))); exact rfl; (exact rfl); exact Nat.le_refl _; (focus (repeat' (first | exact trivial | refine ⟨?_, ?_⟩))); exact hso)
  all_goals refine ⟨?_, rfl⟩
  all_goals simp only [decide_eq_true_eq, decide_eq_false_iff_not] at *
  all_goals simp only [abb, adm, PV.bool.injEq]
  all_goals first
    | (rw [decide_eq_false (by omega)]; rfl)
    | (rw [decide_eq_true (by omega)]; rfl)
    | (rw [Bool.eq_iff_iff]; simp only [decide_eq_true_eq, Bool.not_eq_true', decide_eq_false_iff_not]; omega)
set_option maxHeartbeats 4000000 in
theorem aml (c : Cm) (hl : c.places.length ≤ 1048576) (hn : c.name.size ≤ 1048576) (σ : Sto) : jo Try.prog 43 [cm c] σ fun r σ' => r = .bool (vk c) ∧ σ' = σ := by
  refine ny tab Try.func43 rfl (nlb rfl) (by decide) fun hso => oh ?_
  have k1 := fun σ => ajk (g := 55) (caps := []) (fun p => !adm p) c.places hl σ ax5 (fun p _ => aqo p σ) rfl
  have k2 := fun σ => ake (g := 56) (caps := []) (fun n => !si n) [c.vol, c.off, c.n, c.region, c.mate, c.idx] (by simp) σ ax2 (fun p _ => aqr p σ) rfl
  have e1 : c.places.any (fun p => !adm p) = !(c.places.all adm) := by rw [List.all_eq_not_any_not, Bool.not_not]
  have e2 : [c.vol, c.off, c.n, c.region, c.mate, c.idx].any (fun n => !si n) = !((si c.vol && si c.off && si c.n) && (si c.region && si c.mate && si c.idx)) := by
    simp only [List.any_cons, List.any_nil, Bool.or_false, Bool.not_and, Bool.or_assoc]
  simp only [e1] at k1
  simp only [e2] at k2
  by_cases hh : af3 c = true
  · have h := of_decide_eq_true hh
    obtain ⟨⟨g1, g2⟩, ⟨g3, g4⟩, ⟨g5, g6⟩, g7, g8⟩ := h
    have c1 : decide (1 ≤ c.kind) = true := decide_eq_true (by omega)
    have c2 : decide (c.kind ≤ 9) = true := decide_eq_true (by omega)
    have c3 : decide (0 ≤ c.client) = true := decide_eq_true (by omega)
    have c4 : decide (c.client ≤ 16) = true := decide_eq_true (by omega)
    have c5 : decide (0 ≤ c.seq) = true := decide_eq_true (by omega)
    have c6 : decide (c.seq ≤ 1073741824) = true := decide_eq_true (by omega)
    have c7 : decide ((c.name.size : Int) ≤ 16) = true := decide_eq_true (by omega)
    have c8 : decide ((c.places.length : Int) ≤ 14) = true := decide_eq_true (by omega)
    have c8m : decide (((c.places.map plc).length : Int) ≤ 14) = true := by rw [List.length_map]; exact c8
    have hmc : vk c = (((si c.vol && si c.off && si c.n) && (si c.region && si c.mate && si c.idx)) && c.places.all adm) := by rw [vk, hh]; rfl
    rw [hmc]
    generalize c.places.all adm = P at *
    generalize ((si c.vol && si c.off && si c.n) && (si c.region && si c.mate && si c.idx)) = Q at *
    cases P <;> cases Q
    all_goals
      repeat' (first | (apply bn; (first | (apply jq; (first | (apply jc; exact (rfl : _ = some _); exact (rfl : _ = PV.bool _); (first | exact rfl | assumption)) | (apply ky; exact (rfl : _ = some _); exact (rfl : _ = PV.bool _); (exact rfl); exact ltn rfl))) | (apply bv; (apply bu (tt := tt); (focus (conv => lhs; whnf); try exact rfl); exact rfl)) | (apply ai; (apply az (tt := tt); (focus (conv => lhs; whnf); try exact rfl); exact rfl)) | (apply ji; (first | (refine cz (tt := tt) auu (k1 _) rfl rfl rfl rfl rfl ?_) | (refine cz (tt := tt) auw (k2 _) rfl rfl rfl rfl rfl ?_))) | (apply dw; (apply di true tab; (focus (conv => lhs; whnf; arg 1; whnf; arg 2; whnf); try exact rfl); (exact trivial); exact rfl)) | (apply kr; (apply ku (tt := tt); exact (rfl : _ = PV.bool _); (first | refine .inl ⟨rfl, ?_⟩ | refine .inr ⟨rfl, ?_⟩ | refine .inl ⟨by assumption, ?_⟩); (focus (conv => lhs; whnf); try exact rfl); exact ltn rfl)) | (apply fq; (apply aa; (apply aj tab; exact rfl; exact rfl; exact rfl; (focus (conv => lhs; whnf; arg 1; whnf; arg 2; whnf); try skip); (exact trivial)); (intro c h; cases h); exact rfl)) | (apply jr; (apply ni tab; (focus (conv => lhs; whnf; arg 1; whnf; arg 2; whnf); try exact rfl); (exact trivial); exact rfl)) | (apply cu; (apply aa; (apply af tab; exact rfl; (focus (conv => lhs; whnf); try exact rfl); exact rfl; (first | exact (rfl : _ = 0) | exact (rfl : _ = 1) | exact (rfl : _ = 2) | exact (rfl : _ = 3) | exact (rfl : _ = 4) | exact (rfl : _ = 5) | exact (rfl : _ = 6) | exact (rfl : _ = 8) | exact (rfl : _ = 9) | exact (rfl : _ = 10) | exact (rfl : _ = 11))); (intro c h; cases h); exact rfl)) | (apply qy; (apply pu (tt := tt) true; (focus (conv => lhs; whnf; arg 1; whnf; arg 2; whnf); try exact rfl); (exact trivial); exact rfl)) | (apply mi; (apply mq .ow tab; exact rfl; (focus ((repeat (apply mh; (focus (conv => lhs; whnf); try exact rfl))); exact nk)); exact rfl; exact rfl; exact rfl; exact rfl; exact rfl; exact rfl)) | (apply lu; (apply kg (tt := tt); (focus (conv => lhs; whnf); try exact rfl); exact rfl; (exact (rfl : _ = 0)); exact rfl)) | (apply ak))) | (apply bq; (first | (apply bg) | (apply ah) | (apply dn))) | (apply bf))
      (change gu _ _ _ _ _ _ _; apply fu; (exact .inr rfl); (focus (repeat' (first | (apply lc; (focus (conv => lhs; whnf); try exact rfl); (exact Wk.same _)) | exact iq))); exact rfl; (exact rfl); exact Nat.le_refl _; (focus (repeat' (first | exact trivial | refine ⟨?_, ?_⟩))); exact hso)
      exact ⟨rfl, rfl⟩
  · have hh' : af3 c = false := by simpa using hh
    rw [aks hh']
    have h' := of_decide_eq_false hh'
    repeat' (first | (apply bn; (first | (apply jq; (first | (apply jc; exact (rfl : _ = some _); exact (rfl : _ = PV.bool _); (assumption)) | (apply ky; exact (rfl : _ = some _); exact (rfl : _ = PV.bool _); (first | exact rfl | assumption); exact ltn rfl) | (apply qm; exact (rfl : _ = some _); exact (rfl : _ = PV.bool _); all_goals intro hb))) | (apply bv; (apply bu (tt := tt); (focus (conv => lhs; whnf); try exact rfl); exact rfl)) | (apply ai; (apply az (tt := tt); (focus (conv => lhs; whnf); try exact rfl); exact rfl)) | (apply ji; (first | (refine cz (tt := tt) auu (k1 _) rfl rfl rfl rfl rfl ?_) | (refine cz (tt := tt) auw (k2 _) rfl rfl rfl rfl rfl ?_))) | (apply dw; (apply di true tab; (focus (conv => lhs; whnf; arg 1; whnf; arg 2; whnf); try exact rfl); (exact trivial); exact rfl)) | (apply kr; (apply ku (tt := tt); exact (rfl : _ = PV.bool _); (first | refine .inr ⟨rfl, ?_⟩ | refine .inl ⟨by assumption, ?_⟩ | refine .inr ⟨by assumption, ?_⟩); (focus (conv => lhs; whnf); try exact rfl); exact ltn rfl)) | (apply fq; (apply aa; (apply aj tab; exact rfl; exact rfl; exact rfl; (focus (conv => lhs; whnf; arg 1; whnf; arg 2; whnf); try skip); (exact trivial)); (intro c h; cases h); exact rfl)) | (apply jr; (apply ni tab; (focus (conv => lhs; whnf; arg 1; whnf; arg 2; whnf); try exact rfl); (exact trivial); exact rfl)) | (apply cu; (apply aa; (apply af tab; exact rfl; (focus (conv => lhs; whnf); try exact rfl); exact rfl; (first | exact (rfl : _ = 0) | exact (rfl : _ = 1) | exact (rfl : _ = 2) | exact (rfl : _ = 3) | exact (rfl : _ = 4) | exact (rfl : _ = 5) | exact (rfl : _ = 6) | exact (rfl : _ = 8) | exact (rfl : _ = 9) | exact (rfl : _ = 10) | exact (rfl : _ = 11))); (intro c h; cases h); exact rfl)) | (apply qy; (apply pu (tt := tt) true; (focus (conv => lhs; whnf; arg 1; whnf; arg 2; whnf); try exact rfl); (exact trivial); exact rfl)) | (apply mi; (apply mq .ow tab; exact rfl; (focus ((repeat (apply mh; (focus (conv => lhs; whnf); try exact rfl))); exact nk)); exact rfl; exact rfl; exact rfl; exact rfl; exact rfl; exact rfl)) | (apply lu; (apply kg (tt := tt); (focus (conv => lhs; whnf); try exact rfl); exact rfl; (exact (rfl : _ = 0)); exact rfl)) | (apply ak))) | (apply bq; (first | (apply bg) | (apply ah) | (apply dn))) | (apply bf))
    all_goals first
      | ((change gu _ _ _ _ _ _ _; apply fu; (exact .inr rfl); (focus (repeat' (first | (apply lc; (focus (conv => lhs; whnf); try exact rfl); (exact Wk.same _)) | exact iq))); exact rfl; (exact rfl); exact Nat.le_refl _; (focus (repeat' (first | exact trivial | refine ⟨?_, ?_⟩))); exact hso)
         exact ⟨rfl, rfl⟩)
      | (exfalso; simp only [decide_eq_true_eq, decide_eq_false_iff_not, List.length_map] at *; omega)
end Go.Proofs.Ytbpjaiemlkcccaa.Pv
end
