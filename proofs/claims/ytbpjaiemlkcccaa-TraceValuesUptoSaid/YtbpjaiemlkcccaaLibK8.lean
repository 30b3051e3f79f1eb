import Derived.Test.YtbpjaiemlkcccaaLibK7
import Derived.Test.YtbpjaiemlkcccaaLibK0
set_option linter.unusedVariables false
set_option linter.unusedSimpArgs false
section
/- Indexes in the program itself: a command done. -/
namespace Go.Proofs.Ytbpjaiemlkcccaa.Pv
open Go
set_option maxRecDepth 100000
theorem agy {x : Ix} {id : Int} (h : ¬ uw x id < 0) : ad8 x id = x.last.getD (uw x id).toNat default := if_neg h
set_option maxHeartbeats 4000000 in
theorem av0 (x : Ix) (c : Cm) (hx : OkI x) (hcp : c.places.length ≤ 1048576) (hcn : c.name.size ≤ 1048576) (σ : Sto) : jo Try.prog 47 [ix x, cm c] σ fun r σ' => r = .tup [ix (doX x c).1, rp (doX x c).2] ∧ σ' = σ := by
  refine ny tab Try.func47 rfl (nlb rfl) (by decide) fun hso => oh ?_
  have my := aml c hcp hcn
  have hll : x.last.length ≤ 1048576 := by have := hx.last; omega
  have la := ajd x c.client hll
  unfold doX
  by_cases hm : vk c = false
  · rw [if_pos hm]
    rw [hm] at my
    repeat' (first | (apply bn; (first | (apply ji; (refine cz (tt := tt) afy (my _) rfl rfl rfl rfl rfl ?_)) | (apply fq; (apply aa; (apply aj tab; exact rfl; exact rfl; exact rfl; (focus (conv => lhs; whnf; arg 1; whnf; arg 2; whnf); try skip); (exact nlb rfl)); (intro c h; cases h); exact rfl)) | (apply qy; (apply pu (tt := tt) true; (focus (conv => lhs; whnf; arg 1; whnf; arg 2; whnf); try exact rfl); (exact trivial); exact rfl)) | (apply gq; (apply dz tab; exact rfl; exact rfl; exact rfl; (focus (conv => lhs; whnf); try exact rfl); exact rfl; exact rfl; exact rfl; exact rfl)) | (apply je; (apply ik tab; exact rfl; exact rfl; (first | exact (rfl : _ = 2) | exact (rfl : _ = 3)); exact rfl)) | (apply lu; (apply kg (tt := tt); (focus (conv => lhs; whnf); try exact rfl); exact rfl; (first | exact (rfl : _ = 0) | exact (rfl : _ = 1)); exact rfl)) | (apply ak))) | (apply bq; (first | (apply bg) | (apply ah) | (apply df; exact rfl; (exact rfl)) | (apply dn) | (apply xg (k := 3) (j := 2); exact (rfl : _ = some none); exact mixed; decide +kernel; decide +kernel; exact rfl))) | (apply bf) | (apply lq) | (apply ab6; (first | (apply aa3; decide +kernel; (apply gm; (apply aj tab; exact rfl; exact rfl; exact rfl; (focus (conv => lhs; whnf; arg 1; whnf; arg 2; whnf); try skip); (exact nlb rfl))); exact rfl; exact rfl; exact rfl) | (refine aad (tt := tt) (by decide +kernel) u6 (rz _ _) rfl rfl rfl rfl rfl rfl ?_) | (apply yu tab; exact rfl; exact rfl; exact rfl; (focus (conv => lhs; whnf); try exact rfl); exact rfl; exact rfl; exact rfl; exact rfl; exact rfl) | (apply aa7))))
    (change gu _ _ _ _ _ _ _; apply fu; (exact .inr rfl); (focus (repeat' (first | (apply mr; exact rfl; exact rfl; exact rfl; (focus (conv => lhs; whnf; arg 1; whnf; arg 2; whnf); try skip); (exact nlb rfl)) | exact iq))); exact rfl; (exact rfl); exact Nat.le_refl _; (focus (repeat' (first | exact trivial | refine ⟨?_, ?_⟩))); exact hso)
    exact ⟨rfl, rfl⟩
  rw [if_neg hm]
  have hm' : vk c = true := by simpa using hm
  rw [hm'] at my
  obtain ⟨g1, g2, g3, g4, g5⟩ := ajn hm'
  have hD := ara x c hx g2 g3 g4 g5
  have hY := ae5 x c
  have kq : uw x c.client < 0 ∨ (0 ≤ uw x c.client ∧ (uw x c.client).toNat < x.last.length) := by
    rcases Int.lt_or_le (uw x c.client) 0 with h | h
    · exact .inl h
    · exact .inr ⟨h, x9 (p := (fun s : Ss => s.client == c.client)) (xs := x.last) h⟩
  generalize vz x c = D at *
  obtain ⟨⟨vs, ns, ls⟩, R⟩ := D
  dsimp only at hD hY ⊢
  subst hY
  have hD : ∀ σ, jo Try.prog 61 [ix x, cm c] σ fun r σ' => r = .tup [.agg [.sl .sh 9 (vs.map vl), .sl .sh 5 (ns.map nm), .sl .sh 8 (x.last.map ss)], rp R] ∧ σ' = σ := hD
  by_cases hc : 0 < c.client
  · have c1 : decide (0 < c.client) = true := decide_eq_true hc
    have w2 := aqn x.last (uw x c.client) (akl c R) hll (by rcases kq with h | h; exact .inl h; exact .inr h.2)
    by_cases h0 : 0 ≤ uw x c.client
    · have c2 : decide (0 ≤ uw x c.client) = true := decide_eq_true h0
      rw [agy (by omega), c2] at la
      by_cases h1 : (x.last.getD (uw x c.client).toNat default).seq = c.seq
      · rw [if_pos ⟨hc, h0, h1⟩]
        generalize x.last.getD (uw x c.client).toNat default = s at *
        have c3 : (s.seq == c.seq) = true := by simpa using h1
        repeat' (first | (apply bn; (first | (apply jq; (apply jc; exact (rfl : _ = some _); exact (rfl : _ = PV.bool _); (first | exact rfl | assumption))) | (apply bv; (apply bu (tt := tt); (focus (conv => lhs; whnf); try exact rfl); exact rfl)) | (apply ai; (apply az (tt := tt); (focus (conv => lhs; whnf); try exact rfl); exact rfl)) | (apply ji; (first | (refine cz (tt := tt) afy (my _) rfl rfl rfl rfl rfl ?_) | (refine cz (tt := tt) aei (la _) rfl rfl rfl rfl rfl ?_))) | (apply dw; (apply di true tab; (focus (conv => lhs; whnf; arg 1; whnf; arg 2; whnf); try exact rfl); (exact trivial); exact rfl)) | (apply kr; (apply ku (tt := tt); exact (rfl : _ = PV.bool _); (first | refine .inl ⟨rfl, ?_⟩ | refine .inl ⟨by assumption, ?_⟩); (focus (conv => lhs; whnf); try exact rfl); exact ltn rfl)) | (apply fq; (apply aa; (apply aj tab; exact rfl; exact rfl; exact rfl; (focus (conv => lhs; whnf; arg 1; whnf; arg 2; whnf); try skip); (first | exact trivial | exact nlb rfl)); (intro c h; cases h); exact rfl)) | (apply cu; (apply aa; (apply af tab; exact rfl; (focus (conv => lhs; whnf); try exact rfl); exact rfl; (first | exact (rfl : _ = 1) | exact (rfl : _ = 2))); (intro c h; cases h); exact rfl)) | (apply qy; (apply pu (tt := tt) true; (focus (conv => lhs; whnf; arg 1; whnf; arg 2; whnf); try exact rfl); (exact trivial); exact rfl)) | (apply iw; (apply iy (tt := tt); (focus (conv => lhs; whnf; arg 1; whnf; arg 2; whnf); try exact rfl); (exact trivial); exact rfl)) | (apply gq; (apply dz tab; exact rfl; exact rfl; exact rfl; (focus (conv => lhs; whnf); try exact rfl); exact rfl; exact rfl; exact rfl; exact rfl)) | (apply je; (apply ik tab; exact rfl; exact rfl; (first | exact (rfl : _ = 2) | exact (rfl : _ = 3) | exact (rfl : _ = 4)); exact rfl)) | (apply lu; (apply kg (tt := tt); (focus (conv => lhs; whnf); try exact rfl); exact rfl; (first | exact (rfl : _ = 0) | exact (rfl : _ = 1)); exact rfl)) | (apply ak))) | (apply bq; (first | (apply bg) | (apply ah) | (apply df; exact rfl; (assumption)) | (apply dm; exact rfl; (exact rfl)) | (apply gz) | (apply dn) | (apply ed) | (apply rq (id := 5) (k := 4) (keys := [[37], [38], [39], []]) (j := 3); exact mixed; decide +kernel; decide +kernel))) | (apply bf) | (apply lq) | (apply om) | (first | (apply sw; (first | (apply dh; (apply af tab; exact rfl; (focus (conv => lhs; whnf); try exact rfl); exact rfl; (exact (rfl : _ = 2)))) | (apply gm; (apply aj tab; exact rfl; exact rfl; exact rfl; (focus (conv => lhs; whnf; arg 1; whnf; arg 2; whnf); try skip); (exact nlb rfl)))); exact rfl; exact rfl) | (apply vv; intro env0)) | (apply eg3; exact rfl; exact rfl; exact rfl) | (apply wz; (first | exact uy | (apply ui; exact rfl) | (apply w9; decide +kernel) | (apply uz))) | (apply ze; (first | (apply aal) | (apply xe))) | (apply zg; (first | (apply qz; exact rfl; exact rfl) | (apply rf; exact rfl; exact rfl; exact rfl; exact rfl))))
        (change gu _ _ _ _ _ _ _; apply fu; (exact .inr rfl); (focus (repeat' (first | (apply mr; exact rfl; exact rfl; exact rfl; (focus (conv => lhs; whnf; arg 1; whnf; arg 2; whnf); try skip); (exact nlb rfl)) | exact iq))); exact rfl; (exact rfl); exact Nat.le_refl _; (focus (repeat' (first | exact trivial | refine ⟨?_, ?_⟩))); exact hso)
        exact ⟨rfl, rfl⟩
      rw [if_neg fun h => h1 h.2.2]
      by_cases h2 : c.seq < (x.last.getD (uw x c.client).toNat default).seq
      · rw [if_pos ⟨hc, h0, h2⟩]
        generalize x.last.getD (uw x c.client).toNat default = s at *
        have c3 : (s.seq == c.seq) = false := by simpa using h1
        have c4 : decide (c.seq < s.seq) = true := decide_eq_true h2
        repeat' (first | (apply bn; (first | (apply jq; (apply jc; exact (rfl : _ = some _); exact (rfl : _ = PV.bool _); (first | exact rfl | assumption))) | (apply bv; (apply bu (tt := tt); (focus (conv => lhs; whnf); try exact rfl); exact rfl)) | (apply ai; (apply az (tt := tt); (focus (conv => lhs; whnf); try exact rfl); exact rfl)) | (apply ji; (first | (refine cz (tt := tt) afy (my _) rfl rfl rfl rfl rfl ?_) | (refine cz (tt := tt) aei (la _) rfl rfl rfl rfl rfl ?_))) | (apply dw; (apply di true tab; (focus (conv => lhs; whnf; arg 1; whnf; arg 2; whnf); try exact rfl); (exact trivial); exact rfl)) | (apply kr; (apply ku (tt := tt); exact (rfl : _ = PV.bool _); (first | refine .inl ⟨rfl, ?_⟩ | refine .inl ⟨by assumption, ?_⟩); (focus (conv => lhs; whnf); try exact rfl); exact ltn rfl)) | (apply fq; (apply aa; (apply aj tab; exact rfl; exact rfl; exact rfl; (focus (conv => lhs; whnf; arg 1; whnf; arg 2; whnf); try skip); (first | exact trivial | exact nlb rfl)); (intro c h; cases h); exact rfl)) | (apply cu; (apply aa; (apply af tab; exact rfl; (focus (conv => lhs; whnf); try exact rfl); exact rfl; (first | exact (rfl : _ = 1) | exact (rfl : _ = 2))); (intro c h; cases h); exact rfl)) | (apply qy; (apply pu (tt := tt) true; (focus (conv => lhs; whnf; arg 1; whnf; arg 2; whnf); try exact rfl); (exact trivial); exact rfl)) | (apply iw; (apply iy (tt := tt); (focus (conv => lhs; whnf; arg 1; whnf; arg 2; whnf); try exact rfl); (exact trivial); exact rfl)) | (apply gq; (apply dz tab; exact rfl; exact rfl; exact rfl; (focus (conv => lhs; whnf); try exact rfl); exact rfl; exact rfl; exact rfl; exact rfl)) | (apply je; (apply ik tab; exact rfl; exact rfl; (first | exact (rfl : _ = 2) | exact (rfl : _ = 3) | exact (rfl : _ = 4)); exact rfl)) | (apply lu; (apply kg (tt := tt); (focus (conv => lhs; whnf); try exact rfl); exact rfl; (first | exact (rfl : _ = 0) | exact (rfl : _ = 1)); exact rfl)) | (apply ak))) | (apply bq; (first | (apply bg) | (apply ah) | (apply df; exact rfl; (assumption)) | (apply dm; exact rfl; (first | exact rfl | assumption)) | (apply gz) | (apply dn) | (apply ed) | (apply xg (k := 3) (j := 2); exact (rfl : _ = some none); exact mixed; decide +kernel; decide +kernel; exact rfl))) | (apply bf) | (apply lq) | (apply om) | (apply ab6; (first | (apply aa3; decide +kernel; (apply gm; (apply aj tab; exact rfl; exact rfl; exact rfl; (focus (conv => lhs; whnf; arg 1; whnf; arg 2; whnf); try skip); (exact nlb rfl))); exact rfl; exact rfl; exact rfl) | (refine aad (tt := tt) (by decide +kernel) u6 (rz _ _) rfl rfl rfl rfl rfl rfl ?_) | (apply yu tab; exact rfl; exact rfl; exact rfl; (focus (conv => lhs; whnf); try exact rfl); exact rfl; exact rfl; exact rfl; exact rfl; exact rfl) | (apply aa7))))
        (change gu _ _ _ _ _ _ _; apply fu; (exact .inr rfl); (focus (repeat' (first | (apply mr; exact rfl; exact rfl; exact rfl; (focus (conv => lhs; whnf; arg 1; whnf; arg 2; whnf); try skip); (exact nlb rfl)) | exact iq))); exact rfl; (exact rfl); exact Nat.le_refl _; (focus (repeat' (first | exact trivial | refine ⟨?_, ?_⟩))); exact hso)
        exact ⟨rfl, rfl⟩
      rw [if_neg fun h => h2 h.2.2, if_pos hc]
      generalize x.last.getD (uw x c.client).toNat default = s at *
      have c3 : (s.seq == c.seq) = false := by simpa using h1
      have c4 : decide (c.seq < s.seq) = false := decide_eq_false h2
      generalize ql x.last (uw x c.client) (akl c R) = ls at *
      repeat' (first | (apply bn; (first | (apply jq; (apply jc; exact (rfl : _ = some _); exact (rfl : _ = PV.bool _); (first | exact rfl | assumption))) | (apply bv; (apply bu (tt := tt); (focus (conv => lhs; whnf); try exact rfl); exact rfl)) | (apply ai; (apply az (tt := tt); (focus (conv => lhs; whnf); try exact rfl); exact rfl)) | (apply ji; (first | (refine cz (tt := tt) afy (my _) rfl rfl rfl rfl rfl ?_) | (refine cz (tt := tt) aei (la _) rfl rfl rfl rfl rfl ?_) | (refine cz (tt := tt) apq (hD _) rfl rfl rfl rfl rfl ?_))) | (apply dw; (apply di true tab; (focus (conv => lhs; whnf; arg 1; whnf; arg 2; whnf); try exact rfl); (exact trivial); exact rfl)) | (apply kr; (apply ku (tt := tt); exact (rfl : _ = PV.bool _); (first | refine .inl ⟨rfl, ?_⟩ | refine .inl ⟨by assumption, ?_⟩); (focus (conv => lhs; whnf); try exact rfl); exact ltn rfl)) | (apply fq; (apply aa; (apply aj tab; exact rfl; exact rfl; exact rfl; (focus (conv => lhs; whnf; arg 1; whnf; arg 2; whnf); try skip); (first | exact trivial | exact nlb rfl)); (intro c h; cases h); exact rfl)) | (apply cu; (apply aa; (apply af tab; exact rfl; (focus (conv => lhs; whnf); try exact rfl); exact rfl; (first | exact (rfl : _ = 1) | exact (rfl : _ = 2))); (intro c h; cases h); exact rfl)) | (apply qy; (apply pu (tt := tt) true; (focus (conv => lhs; whnf; arg 1; whnf; arg 2; whnf); try exact rfl); (exact trivial); exact rfl)) | (apply iw; (apply iy (tt := tt); (focus (conv => lhs; whnf; arg 1; whnf; arg 2; whnf); try exact rfl); (exact trivial); exact rfl)) | (apply gq; (apply dz tab; exact rfl; exact rfl; exact rfl; (focus (conv => lhs; whnf); try exact rfl); exact rfl; exact rfl; exact rfl; exact rfl)) | (apply qd; (apply aa; (apply dx (tt := tt); exact rfl; exact rfl; (focus (conv => lhs; whnf); try exact rfl)); (intro c h; cases h); exact rfl)) | (apply je; (apply ik tab; exact rfl; exact rfl; (first | exact (rfl : _ = 2) | exact (rfl : _ = 3) | exact (rfl : _ = 4) | exact (rfl : _ = 5)); exact rfl)) | (apply lu; (apply kg (tt := tt); (focus (conv => lhs; whnf); try exact rfl); exact rfl; (first | exact (rfl : _ = 0) | exact (rfl : _ = 1)); exact rfl)) | (apply ak))) | (apply bq; (first | (apply bg) | (apply ah) | (apply df; exact rfl; (assumption)) | (apply dm; exact rfl; (first | exact rfl | assumption)) | (apply gz) | (apply ed))) | (apply bf) | (apply ng))
      refine cz (tt := tt) aph (agw (fun s => s.client == c.client) x.last hll _ auy (fun ex y _ => aoj y _ c _ ?_) ?_) rfl rfl rfl rfl rfl ?_
      rotate_left 2
      · repeat' (first | (apply bn; (first | (apply bv; (apply bu (tt := tt); (focus (conv => lhs; whnf); try exact rfl); exact rfl)) | (apply ai; (apply az (tt := tt); (focus (conv => lhs; whnf); try exact rfl); exact rfl)) | (apply ji; (refine cz (tt := tt) au0 (w2 _) rfl rfl rfl rfl rfl ?_)) | (apply fq; (apply aa; (apply aj tab; exact rfl; exact rfl; exact rfl; (focus (conv => lhs; whnf; arg 1; whnf; arg 2; whnf); try skip); (first | exact trivial | exact nlb rfl)); (intro c h; cases h); exact rfl)) | (apply cu; (apply aa; (apply af tab; exact rfl; (focus (conv => lhs; whnf); try exact rfl); exact rfl; (first | exact (rfl : _ = 1) | exact (rfl : _ = 2))); (intro c h; cases h); exact rfl)) | (apply iw; (apply iy (tt := tt); (focus (conv => lhs; whnf; arg 1; whnf; arg 2; whnf); try exact rfl); (exact trivial); exact rfl)) | (apply gq; (apply dz tab; exact rfl; exact rfl; exact rfl; (focus (conv => lhs; whnf); try exact rfl); exact rfl; exact rfl; exact rfl; exact rfl)) | (apply pq; (apply aa; (apply gy tab; exact rfl; (focus (conv => lhs; whnf; arg 1; whnf; arg 2; whnf); try skip)); (intro c h; cases h); exact rfl)) | (apply je; (apply ik tab; exact rfl; exact rfl; (exact (rfl : _ = 6)); exact rfl)) | (apply ak))) | (apply bq; (first | (apply bg) | (apply ah) | (apply dn) | (apply rq (id := 12) (k := 3) (keys := [[83], [84], []]) (j := 2); exact mixed; decide +kernel; decide +kernel))) | (apply bf) | (first | (apply sw; (apply gm; (apply aj tab; exact rfl; exact rfl; exact rfl; (focus (conv => lhs; whnf; arg 1; whnf; arg 2; whnf); try skip); (exact nlb rfl))); exact rfl; exact rfl) | (apply vv; intro env0)) | (apply eg3; exact rfl; exact rfl; exact rfl) | (apply wz; (first | exact uy | (apply ui; exact rfl) | (apply w9; decide +kernel) | (apply uz))) | (apply ze; (first | (apply aal) | (apply xe))) | (apply zg; (first | (apply qz; exact rfl; exact rfl) | (apply rf; exact rfl; exact rfl; exact rfl; exact rfl))))
        (change gu _ _ _ _ _ _ _; apply fu; (exact .inr rfl); (focus (repeat' (first | (apply mr; exact rfl; exact rfl; exact rfl; (focus (conv => lhs; whnf; arg 1; whnf; arg 2; whnf); try skip); (exact nlb rfl)) | exact iq))); exact rfl; (exact rfl); exact Nat.le_refl _; (focus (repeat' (first | exact trivial | refine ⟨?_, ?_⟩))); exact hso)
        exact ⟨rfl, rfl⟩
      · exact ag (wo _)
      · rfl
    · have c2 : decide (0 ≤ uw x c.client) = false := decide_eq_false h0
      rw [if_neg fun h => h0 h.2.1, if_neg fun h => h0 h.2.1, if_pos hc]
      rw [c2] at la
      generalize ad8 x c.client = s at *
      generalize ql x.last (uw x c.client) (akl c R) = ls at *
      repeat' (first | (apply bn; (first | (apply jq; (first | (apply jc; exact (rfl : _ = some _); exact (rfl : _ = PV.bool _); (assumption)) | (apply ky; exact (rfl : _ = some _); exact (rfl : _ = PV.bool _); (exact rfl); exact ltn rfl))) | (apply bv; (apply bu (tt := tt); (focus (conv => lhs; whnf); try exact rfl); exact rfl)) | (apply ai; (apply az (tt := tt); (focus (conv => lhs; whnf); try exact rfl); exact rfl)) | (apply ji; (first | (refine cz (tt := tt) afy (my _) rfl rfl rfl rfl rfl ?_) | (refine cz (tt := tt) aei (la _) rfl rfl rfl rfl rfl ?_) | (refine cz (tt := tt) apq (hD _) rfl rfl rfl rfl rfl ?_))) | (apply dw; (apply di true tab; (focus (conv => lhs; whnf; arg 1; whnf; arg 2; whnf); try exact rfl); (exact trivial); exact rfl)) | (apply kr; (apply ku (tt := tt); exact (rfl : _ = PV.bool _); (first | refine .inr ⟨rfl, ?_⟩ | refine .inl ⟨by assumption, ?_⟩); (focus (conv => lhs; whnf); try exact rfl); exact ltn rfl)) | (apply fq; (apply aa; (apply aj tab; exact rfl; exact rfl; exact rfl; (focus (conv => lhs; whnf; arg 1; whnf; arg 2; whnf); try skip); (first | exact trivial | exact nlb rfl)); (intro c h; cases h); exact rfl)) | (apply cu; (apply aa; (apply af tab; exact rfl; (focus (conv => lhs; whnf); try exact rfl); exact rfl; (first | exact (rfl : _ = 1) | exact (rfl : _ = 2))); (intro c h; cases h); exact rfl)) | (apply qy; (apply pu (tt := tt) true; (focus (conv => lhs; whnf; arg 1; whnf; arg 2; whnf); try exact rfl); (exact trivial); exact rfl)) | (apply iw; (apply iy (tt := tt); (focus (conv => lhs; whnf; arg 1; whnf; arg 2; whnf); try exact rfl); (exact trivial); exact rfl)) | (apply gq; (apply dz tab; exact rfl; exact rfl; exact rfl; (focus (conv => lhs; whnf); try exact rfl); exact rfl; exact rfl; exact rfl; exact rfl)) | (apply qd; (apply aa; (apply dx (tt := tt); exact rfl; exact rfl; (focus (conv => lhs; whnf); try exact rfl)); (intro c h; cases h); exact rfl)) | (apply je; (apply ik tab; exact rfl; exact rfl; (first | exact (rfl : _ = 2) | exact (rfl : _ = 3) | exact (rfl : _ = 4) | exact (rfl : _ = 5)); exact rfl)) | (apply lu; (apply kg (tt := tt); (focus (conv => lhs; whnf); try exact rfl); exact rfl; (first | exact (rfl : _ = 0) | exact (rfl : _ = 1)); exact rfl)) | (apply ak))) | (apply bq; (first | (apply bg) | (apply ah) | (apply df; exact rfl; (assumption)) | (apply dm; exact rfl; (exact rfl)) | (apply gz) | (apply ed))) | (apply bf) | (apply ng))
      refine cz (tt := tt) aph (agw (fun s => s.client == c.client) x.last hll _ auy (fun ex y _ => aoj y _ c _ ?_) ?_) rfl rfl rfl rfl rfl ?_
      rotate_left 2
      · repeat' (first | (apply bn; (first | (apply bv; (apply bu (tt := tt); (focus (conv => lhs; whnf); try exact rfl); exact rfl)) | (apply ai; (apply az (tt := tt); (focus (conv => lhs; whnf); try exact rfl); exact rfl)) | (apply ji; (refine cz (tt := tt) au0 (w2 _) rfl rfl rfl rfl rfl ?_)) | (apply fq; (apply aa; (apply aj tab; exact rfl; exact rfl; exact rfl; (focus (conv => lhs; whnf; arg 1; whnf; arg 2; whnf); try skip); (first | exact trivial | exact nlb rfl)); (intro c h; cases h); exact rfl)) | (apply cu; (apply aa; (apply af tab; exact rfl; (focus (conv => lhs; whnf); try exact rfl); exact rfl; (first | exact (rfl : _ = 1) | exact (rfl : _ = 2))); (intro c h; cases h); exact rfl)) | (apply iw; (apply iy (tt := tt); (focus (conv => lhs; whnf; arg 1; whnf; arg 2; whnf); try exact rfl); (exact trivial); exact rfl)) | (apply gq; (apply dz tab; exact rfl; exact rfl; exact rfl; (focus (conv => lhs; whnf); try exact rfl); exact rfl; exact rfl; exact rfl; exact rfl)) | (apply pq; (apply aa; (apply gy tab; exact rfl; (focus (conv => lhs; whnf; arg 1; whnf; arg 2; whnf); try skip)); (intro c h; cases h); exact rfl)) | (apply je; (apply ik tab; exact rfl; exact rfl; (exact (rfl : _ = 6)); exact rfl)) | (apply ak))) | (apply bq; (first | (apply bg) | (apply ah) | (apply dn) | (apply rq (id := 12) (k := 3) (keys := [[83], [84], []]) (j := 2); exact mixed; decide +kernel; decide +kernel))) | (apply bf) | (first | (apply sw; (apply gm; (apply aj tab; exact rfl; exact rfl; exact rfl; (focus (conv => lhs; whnf; arg 1; whnf; arg 2; whnf); try skip); (exact nlb rfl))); exact rfl; exact rfl) | (apply vv; intro env0)) | (apply eg3; exact rfl; exact rfl; exact rfl) | (apply wz; (first | exact uy | (apply ui; exact rfl) | (apply w9; decide +kernel) | (apply uz))) | (apply ze; (first | (apply aal) | (apply xe))) | (apply zg; (first | (apply qz; exact rfl; exact rfl) | (apply rf; exact rfl; exact rfl; exact rfl; exact rfl))))
        (change gu _ _ _ _ _ _ _; apply fu; (exact .inr rfl); (focus (repeat' (first | (apply mr; exact rfl; exact rfl; exact rfl; (focus (conv => lhs; whnf; arg 1; whnf; arg 2; whnf); try skip); (exact nlb rfl)) | exact iq))); exact rfl; (exact rfl); exact Nat.le_refl _; (focus (repeat' (first | exact trivial | refine ⟨?_, ?_⟩))); exact hso)
        exact ⟨rfl, rfl⟩
      · exact ag (wo _)
      · rfl
  · have c1 : decide (0 < c.client) = false := decide_eq_false hc
    rw [if_neg fun h => hc h.1, if_neg fun h => hc h.1, if_neg hc]
    generalize ad8 x c.client = s at *
    generalize decide (0 ≤ uw x c.client) = b at *
    repeat' (first | (apply bn; (first | (apply jq; (apply ky; exact (rfl : _ = some _); exact (rfl : _ = PV.bool _); (first | exact rfl | assumption); exact ltn rfl)) | (apply bv; (apply bu (tt := tt); (focus (conv => lhs; whnf); try exact rfl); exact rfl)) | (apply ai; (apply az (tt := tt); (focus (conv => lhs; whnf); try exact rfl); exact rfl)) | (apply ji; (first | (refine cz (tt := tt) afy (my _) rfl rfl rfl rfl rfl ?_) | (refine cz (tt := tt) aei (la _) rfl rfl rfl rfl rfl ?_) | (refine cz (tt := tt) apq (hD _) rfl rfl rfl rfl rfl ?_))) | (apply dw; (apply di true tab; (focus (conv => lhs; whnf; arg 1; whnf; arg 2; whnf); try exact rfl); (exact trivial); exact rfl)) | (apply kr; (apply ku (tt := tt); exact (rfl : _ = PV.bool _); (first | refine .inr ⟨rfl, ?_⟩ | refine .inr ⟨by assumption, ?_⟩); (focus (conv => lhs; whnf); try exact rfl); exact ltn rfl)) | (apply fq; (apply aa; (apply aj tab; exact rfl; exact rfl; exact rfl; (focus (conv => lhs; whnf; arg 1; whnf; arg 2; whnf); try skip); (first | exact trivial | exact nlb rfl)); (intro c h; cases h); exact rfl)) | (apply cu; (apply aa; (apply af tab; exact rfl; (focus (conv => lhs; whnf); try exact rfl); exact rfl; (exact (rfl : _ = 1))); (intro c h; cases h); exact rfl)) | (apply qy; (apply pu (tt := tt) true; (focus (conv => lhs; whnf; arg 1; whnf; arg 2; whnf); try exact rfl); (exact trivial); exact rfl)) | (apply iw; (apply iy (tt := tt); (focus (conv => lhs; whnf; arg 1; whnf; arg 2; whnf); try exact rfl); (exact trivial); exact rfl)) | (apply gq; (apply dz tab; exact rfl; exact rfl; exact rfl; (focus (conv => lhs; whnf); try exact rfl); exact rfl; exact rfl; exact rfl; exact rfl)) | (apply je; (apply ik tab; exact rfl; exact rfl; (first | exact (rfl : _ = 2) | exact (rfl : _ = 3) | exact (rfl : _ = 4) | exact (rfl : _ = 5)); exact rfl)) | (apply lu; (apply kg (tt := tt); (focus (conv => lhs; whnf); try exact rfl); exact rfl; (first | exact (rfl : _ = 0) | exact (rfl : _ = 1)); exact rfl)) | (apply ak))) | (apply bq; (first | (apply bg) | (apply ah) | (apply dm; exact rfl; (first | exact rfl | assumption)) | (apply gz) | (apply dn) | (apply ed) | (apply rq (id := 12) (k := 3) (keys := [[83], [84], []]) (j := 2); exact mixed; decide +kernel; decide +kernel))) | (apply bf) | (apply ng) | (first | (apply sw; (apply gm; (apply aj tab; exact rfl; exact rfl; exact rfl; (focus (conv => lhs; whnf; arg 1; whnf; arg 2; whnf); try skip); (exact nlb rfl))); exact rfl; exact rfl) | (apply vv; intro env0)) | (apply eg3; exact rfl; exact rfl; exact rfl) | (apply wz; (first | exact uy | (apply ui; exact rfl) | (apply w9; decide +kernel) | (apply uz))) | (apply ze; (first | (apply aal) | (apply xe))) | (apply zg; (first | (apply qz; exact rfl; exact rfl) | (apply rf; exact rfl; exact rfl; exact rfl; exact rfl))))
    (change gu _ _ _ _ _ _ _; apply fu; (exact .inr rfl); (focus (repeat' (first | (apply mr; exact rfl; exact rfl; exact rfl; (focus (conv => lhs; whnf; arg 1; whnf; arg 2; whnf); try skip); (exact nlb rfl)) | exact iq))); exact rfl; (exact rfl); exact Nat.le_refl _; (focus (repeat' (first | exact trivial | refine ⟨?_, ?_⟩))); exact hso)
    exact ⟨rfl, rfl⟩
end Go.Proofs.Ytbpjaiemlkcccaa.Pv
end
section
/- What a command makes of an index's volumes and names, case for case; what holds of every index that commands come to. -/
namespace Go.Proofs.Ytbpjaiemlkcccaa.Pv
open Go
set_option maxRecDepth 100000
inductive St (x : Ix) : List Vl → List Nm → Prop
  | same : St x x.vols x.names
  | app (h m : Int) (hh : 1 ≤ h ∧ h ≤ 3) (hl : x.vols.length < 48) : St x (x.vols ++ [⟨x.vols.length + 1, h, m, 0, 1, [], [], 0, 0⟩]) x.names
  | res (i : Nat) (v : Vl) (n : Int) (hv : x.vols[i]? = some v) (hp : v.phase = 1) (hn : 1 ≤ n ∧ n ≤ 32) (hu : v.used ≤ 160 - n) : St x (x.vols.set i ⟨v.id, v.home, v.mate, w64 (v.used + n), v.phase, v.parts, v.places, v.pair, v.sum⟩) x.names
  | lock (i : Nat) (v : Vl) (hv : x.vols[i]? = some v) (hp : v.phase = 1) : St x (x.vols.set i ⟨v.id, v.home, v.mate, v.used, 2, v.parts, v.places, v.pair, v.sum⟩) x.names
  | shut (i : Nat) (v : Vl) (pl : List (Int × Int)) (hv : x.vols[i]? = some v) (hp : v.phase = 2) (hw : zw pl v.home = true) : St x (x.vols.set i ⟨v.id, v.home, v.mate, v.used, 3, v.parts, pl, v.pair, v.sum⟩) x.names
  | move (i : Nat) (v : Vl) (q : Nat) (p : Int × Int) (hv : x.vols[i]? = some v) (hp : 3 ≤ v.phase) (hp1 : p.1 = v.home) (hin : p ∉ v.places) : St x (x.vols.set i ⟨v.id, v.home, v.mate, v.used, v.phase, v.parts, v.places.set q p, v.pair, v.sum⟩) x.names
  | pair (i k : Nat) (a b : Vl) (pl : List (Int × Int)) (ha : x.vols[i]? = some a) (hb : x.vols[k]? = some b) (pa : a.phase = 3) (pb : b.phase = 3) (hh : a.home ≠ b.home) (ht : (uu a.home b.home).2 = 0) (hw : zw pl (uu a.home b.home).1 = true) (hl : x.vols.length < 48) :
      St x ((x.vols.set i (aaa a b)).set k (aaw a b) ++ [aan (uu a.home b.home).1 a b pl]) x.names
  | put (i : Nat) (v : Vl) (c : Cm) (hi : ol x c.vol = i) (hv : x.vols[i]? = some v) (hid : v.id = c.vol) (hp : v.phase = 1) (hn : c.n ≠ 0) (hu : c.off + c.n ≤ v.used) (ho : 0 ≤ c.off ∧ c.off ≤ 1048576) (hn2 : 0 ≤ c.n ∧ c.n ≤ 1048576) (hne : wm c.name ⟨#[]⟩ = false) : St x (x.vols.set i (aa6 v c)) (adj x c)
  | drop (k : Nat) (hk : k < x.names.length) : St x x.vols (x.names.take k ++ x.names.drop (k + 1))
structure VolOK (vs : List Vl) (j : Nat) (v : Vl) : Prop where
  ph : 1 ≤ v.phase ∧ v.phase ≤ 5
  id : v.phase ≠ 5 → v.id = j + 1
  sumid : v.phase = 5 → v.id = 1000 + 64 * v.pair + v.sum ∧ (1 ≤ v.pair ∧ v.pair ≤ 48) ∧ (1 ≤ v.sum ∧ v.sum ≤ 48) ∧ ∃ a : Vl, vs[(v.pair - 1).toNat]? = some a ∧ a.phase = 4
  bare : v.phase < 3 → v.places = []
  full : 3 ≤ v.phase → v.places.length = 14 ∧ (∀ p ∈ v.places, p.1 = v.home) ∧ v.places.Nodup
  twin : v.phase = 4 → ∃ (k : Nat) (w : Vl) (m : Nat) (s : Vl), vs[k]? = some w ∧ w.phase = 4 ∧ w.id = v.pair ∧ w.pair = v.id ∧ w.sum = v.sum ∧ w.home ≠ v.home ∧ vs[m]? = some s ∧ s.id = v.sum ∧ s.phase = 5 ∧ s.home + v.home + w.home = 6
  used : 0 ≤ v.used ∧ v.used ≤ 160
  hb : 1 ≤ v.home ∧ v.home ≤ 3
structure Inv (vs : List Vl) : Prop where
  len : vs.length ≤ 48
  ok : ∀ (j : Nat) v, vs[j]? = some v → VolOK vs j v
  uniq : ∀ (j k : Nat) v w, vs[j]? = some v → vs[k]? = some w → v.id = w.id → j = k
theorem ame {l : List (Int × Int)} {r : Int} (h : zw l r = true) : l.length = 14 ∧ (∀ p ∈ l, p.1 = r) ∧ l.Nodup := by
  unfold zw at h
  rw [Bool.and_eq_true, decide_eq_true_eq] at h
  obtain ⟨h1, h2⟩ := h
  have h3 : ∀ i, i < l.length → wholeAt l r i = true := fun i hi => List.all_eq_true.1 h2 i (List.mem_range.2 hi)
  refine ⟨h1, fun p hp => ?_, ?_⟩
  · obtain ⟨j, hj, e⟩ := List.getElem_of_mem hp
    have := h3 j hj
    unfold wholeAt at this
    rw [Bool.and_eq_true, List.getD_eq_getElem?_getD, List.getElem?_eq_getElem hj] at this
    rw [← e]; simpa using this.1
  · rw [List.nodup_iff_pairwise_ne, List.pairwise_iff_getElem]
    intro i j hi hj hij e
    have := h3 j hj
    unfold wholeAt at this
    rw [Bool.and_eq_true] at this
    have := List.all_eq_true.1 this.2 i (List.mem_range.2 hij)
    rw [List.getD_eq_getElem?_getD, List.getElem?_eq_getElem hi, List.getD_eq_getElem?_getD, List.getElem?_eq_getElem hj] at this
    simp [e] at this
theorem ana {z : Int} (h : -9223372036854775808 ≤ z ∧ z ≤ 9223372036854775807) : w64 z = z := by
  unfold w64; exact acu (by simp only [InR]; omega)
theorem ast {a b : Int} (ha : 0 ≤ a ∧ a ≤ 48) (hb : 0 ≤ b ∧ b ≤ 48) : ae8 a b = 1000 + 64 * a + b := by
  unfold ae8
  rw [ana (z := 64 * a) (by omega), ana (z := 1000 + 64 * a) (by omega), ana (by omega)]
theorem ade {vs : List Vl} {i j : Nat} {w y : Vl} (h : (vs.set i w)[j]? = some y) : (j = i ∧ y = w ∧ i < vs.length) ∨ (j ≠ i ∧ vs[j]? = some y) := by
  rw [List.getElem?_set] at h
  split at h
  · rename_i e
    split at h
    · rename_i hl; exact .inl ⟨e.symm, by simpa using h.symm, by omega⟩
    · cases h
  · rename_i e; exact .inr ⟨fun h' => e h'.symm, h⟩
theorem aca {vs : List Vl} {j : Nat} {w y : Vl} (h : (vs ++ [w])[j]? = some y) : (j = vs.length ∧ y = w) ∨ (j < vs.length ∧ vs[j]? = some y) := by
  by_cases hj : j < vs.length
  · rw [List.getElem?_append_left hj] at h; exact .inr ⟨hj, h⟩
  · rw [List.getElem?_append_right (by omega)] at h
    have : j - vs.length = 0 := by
      have := (List.getElem?_eq_some_iff.1 h).1
      simp at this; omega
    rw [this] at h
    exact .inl ⟨by omega, by simpa using h.symm⟩
theorem Inv.upd {vs : List Vl} (h : Inv vs) {i : Nat} {v w : Vl} (hv : vs[i]? = some v) (hid : w.id = v.id) (hho : w.home = v.home) (hpr : w.pair = v.pair) (hsm : w.sum = v.sum) (hph : w.phase = v.phase ∨ (v.phase < 4 ∧ w.phase < 4))
    (hp1 : 1 ≤ w.phase) (hb : w.phase < 3 → w.places = []) (hf : 3 ≤ w.phase → w.places.length = 14 ∧ (∀ p ∈ w.places, p.1 = w.home) ∧ w.places.Nodup) (hu : 0 ≤ w.used ∧ w.used ≤ 160) : Inv (vs.set i w) := by
  have hil := (List.getElem?_eq_some_iff.1 hv).1
  have hV := h.ok i v hv
  -- what stood somewhere stands there still, its like
  have like : ∀ (j : Nat) y, vs[j]? = some y → ∃ y', (vs.set i w)[j]? = some y' ∧ y'.id = y.id ∧ y'.home = y.home ∧ y'.pair = y.pair ∧ y'.sum = y.sum ∧ ((4 ≤ y.phase) → y'.phase = y.phase) := by
    intro j y hj
    by_cases e : j = i
    · subst e
      rw [hv] at hj; cases hj
      exact ⟨w, by rw [List.getElem?_set, if_pos rfl, if_pos hil], hid, hho, hpr, hsm, fun h4 => by omega⟩
    · exact ⟨y, by rw [List.getElem?_set, if_neg (Ne.symm e)]; exact hj, rfl, rfl, rfl, rfl, fun _ => rfl⟩
  refine ⟨by rw [List.length_set]; exact h.len, fun j y hj => ?_, fun j k y z hj hk e => ?_⟩
  · have key : ∀ u : Vl, VolOK vs j u → (u.phase = 5 → u.id = 1000 + 64 * u.pair + u.sum ∧ (1 ≤ u.pair ∧ u.pair ≤ 48) ∧ (1 ≤ u.sum ∧ u.sum ≤ 48) ∧ ∃ a : Vl, (vs.set i w)[(u.pair - 1).toNat]? = some a ∧ a.phase = 4) ∧
        (u.phase = 4 → ∃ (k : Nat) (w' : Vl) (m : Nat) (s : Vl), (vs.set i w)[k]? = some w' ∧ w'.phase = 4 ∧ w'.id = u.pair ∧ w'.pair = u.id ∧ w'.sum = u.sum ∧ w'.home ≠ u.home ∧ (vs.set i w)[m]? = some s ∧ s.id = u.sum ∧ s.phase = 5 ∧ s.home + u.home + w'.home = 6) := by
      intro u hu'
      refine ⟨fun h5 => ?_, fun h4 => ?_⟩
      · obtain ⟨q1, q2, q3, a, q4, q5⟩ := hu'.sumid h5
        obtain ⟨a', r1, _, _, _, _, r6⟩ := like _ _ q4
        exact ⟨q1, q2, q3, a', r1, by rw [r6 (by omega)]; exact q5⟩
      · obtain ⟨k, w', m, s, q1, q0, q2, q3, q4, q5, q6, q7, q8, q9⟩ := hu'.twin h4
        obtain ⟨a', r1, r2, r3, r4, r5, r6⟩ := like _ _ q1
        obtain ⟨s', t1, t2, t3, t4, t5, t6⟩ := like _ _ q6
        exact ⟨k, a', m, s', r1, by rw [r6 (by omega)]; exact q0, by rw [r2]; exact q2, by rw [r4]; exact q3, by rw [r5]; exact q4, by rw [r3]; exact q5, t1, by rw [t2]; exact q7, by rw [t6 (by omega)]; exact q8, by rw [t3, r3]; exact q9⟩
    rcases ade hj with ⟨rfl, rfl, _⟩ | ⟨hne, hj⟩
    · obtain ⟨k1, k2⟩ := key v hV
      have hw5 : y.phase = 5 → v.phase = 5 := fun h5 => by rcases hph with h | h <;> omega
      have hw4 : y.phase = 4 → v.phase = 4 := fun h5 => by rcases hph with h | h <;> omega
      have hle : y.phase ≤ 5 := by have := hV.ph; rcases hph with h | h <;> omega
      refine ⟨⟨hp1, hle⟩, fun h5 => ?_, fun h5 => ?_, hb, hf, fun h4 => ?_, hu, by rw [hho]; exact hV.hb⟩
      · rw [hid]; exact hV.id (by rcases hph with h | h <;> omega)
      · rw [hid, hpr, hsm]; exact k1 (hw5 h5)
      · rw [hid, hpr, hsm, hho]; exact k2 (hw4 h4)
    · have hY := h.ok j y hj
      obtain ⟨k1, k2⟩ := key y hY
      exact ⟨hY.ph, hY.id, k1, hY.bare, hY.full, k2, hY.used, hY.hb⟩
  · have back : ∀ (j : Nat) y, (vs.set i w)[j]? = some y → ∃ y', vs[j]? = some y' ∧ y'.id = y.id := fun j y hj => by
      rcases ade hj with ⟨rfl, rfl, _⟩ | ⟨_, hj⟩
      · exact ⟨v, hv, hid.symm⟩
      · exact ⟨y, hj, rfl⟩
    obtain ⟨y', a1, a2⟩ := back j y hj
    obtain ⟨z', b1, b2⟩ := back k z hk
    exact h.uniq j k y' z' a1 b1 (by rw [a2, b2]; exact e)
end Go.Proofs.Ytbpjaiemlkcccaa.Pv
end
section
/- What holds of every index that commands come to. -/
namespace Go.Proofs.Ytbpjaiemlkcccaa.Pv
open Go
set_option maxRecDepth 100000
theorem aq3 {a b : Int} (h : (uu a b).2 = 0) : (uu a b).1 = 6 - a - b := by
  unfold uu at h ⊢
  split
  · rfl
  · rename_i hn; rw [if_neg hn] at h; simp at h
theorem Inv.app {vs : List Vl} (h : Inv vs) {w : Vl} (hlen : vs.length < 48) (hw : VolOK (vs ++ [w]) vs.length w) (hu : ∀ (j : Nat) v, vs[j]? = some v → v.id ≠ w.id) : Inv (vs ++ [w]) := by
  have up : ∀ (j : Nat) y, vs[j]? = some y → (vs ++ [w])[j]? = some y := fun j y hj => by
    rw [List.getElem?_append_left (List.getElem?_eq_some_iff.1 hj).1]; exact hj
  refine ⟨by rw [List.length_append]; simp; omega, fun j y hj => ?_, fun j k y z hj hk e => ?_⟩
  · rcases aca hj with ⟨rfl, rfl⟩ | ⟨_, hj⟩
    · exact hw
    · have hY := h.ok j y hj
      refine ⟨hY.ph, hY.id, fun h5 => ?_, hY.bare, hY.full, fun h4 => ?_, hY.used, hY.hb⟩
      · obtain ⟨q1, q2, q3, a, q4, q5⟩ := hY.sumid h5
        exact ⟨q1, q2, q3, a, up _ _ q4, q5⟩
      · obtain ⟨k, w', m, s, q1, q0, q2, q3, q4, q5, q6, q7, q8, q9⟩ := hY.twin h4
        exact ⟨k, w', m, s, up _ _ q1, q0, q2, q3, q4, q5, up _ _ q6, q7, q8, q9⟩
  · rcases aca hj with ⟨rfl, e1⟩ | ⟨_, hj2⟩
    · rcases aca hk with ⟨rfl, _⟩ | ⟨_, hk2⟩
      · rfl
      · exact absurd (by rw [← e, e1]) (hu k z hk2)
    · rcases aca hk with ⟨rfl, e2⟩ | ⟨_, hk2⟩
      · exact absurd (by rw [e, e2]) (hu j y hj2)
      · exact h.uniq j k y z hj2 hk2 e
theorem Inv.idlt {vs : List Vl} (h : Inv vs) {j : Nat} {v : Vl} (hv : vs[j]? = some v) (hp : v.phase ≠ 5) : v.id = j + 1 ∧ j < vs.length := ⟨(h.ok j v hv).id hp, (List.getElem?_eq_some_iff.1 hv).1⟩
set_option maxHeartbeats 1000000 in
theorem Inv.pair {vs : List Vl} (h : Inv vs) {i k : Nat} {a b : Vl} {pl : List (Int × Int)} (ha : vs[i]? = some a) (hb : vs[k]? = some b) (pa : a.phase = 3) (pb : b.phase = 3) (hh : a.home ≠ b.home) (ht : (uu a.home b.home).2 = 0)
    (hw : zw pl (uu a.home b.home).1 = true) (hl : vs.length < 48) : Inv ((vs.set i (aaa a b)).set k (aaw a b) ++ [aan (uu a.home b.home).1 a b pl]) := by
  have hik : i ≠ k := fun e => by subst e; rw [ha] at hb; cases hb; exact hh rfl
  obtain ⟨ia, il⟩ := h.idlt ha (by omega)
  obtain ⟨ib, kl⟩ := h.idlt hb (by omega)
  have hlen : ((vs.set i (aaa a b)).set k (aaw a b)).length = vs.length := by rw [List.length_set, List.length_set]
  have sid : ae8 a.id b.id = 1000 + 64 * a.id + b.id := ast (by omega) (by omega)
  have h3 := aq3 ht
  have VA := h.ok i a ha
  have VB := h.ok k b hb
  generalize hvs3 : (vs.set i (aaa a b)).set k (aaw a b) ++ [aan (uu a.home b.home).1 a b pl] = ws at *
  have gA : ws[i]? = some (aaa a b) := by
    rw [← hvs3, List.getElem?_append_left (by omega), List.getElem?_set, if_neg (Ne.symm hik), List.getElem?_set, if_pos rfl, if_pos il]
  have gB : ws[k]? = some (aaw a b) := by
    rw [← hvs3, List.getElem?_append_left (by omega), List.getElem?_set, if_pos rfl, if_pos (by rw [List.length_set]; exact kl)]
  have gS : ws[vs.length]? = some (aan (uu a.home b.home).1 a b pl) := by
    rw [← hvs3, List.getElem?_append_right (by omega), hlen, Nat.sub_self]; rfl
  have cases3 : ∀ (j : Nat) y, ws[j]? = some y → (j = vs.length ∧ y = aan (uu a.home b.home).1 a b pl) ∨ (j = i ∧ y = aaa a b) ∨ (j = k ∧ y = aaw a b) ∨ (j ≠ i ∧ j ≠ k ∧ vs[j]? = some y) := by
    intro j y hj
    rw [← hvs3] at hj
    rcases aca hj with ⟨e1, e2⟩ | ⟨_, hj⟩
    · rw [hlen] at e1; exact .inl ⟨e1, e2⟩
    rcases ade hj with ⟨e1, e2, _⟩ | ⟨n1, hj⟩
    · exact .inr (.inr (.inl ⟨e1, e2⟩))
    rcases ade hj with ⟨e1, e2, _⟩ | ⟨n2, hj⟩
    · exact .inr (.inl ⟨e1, e2⟩)
    · exact .inr (.inr (.inr ⟨n2, n1, hj⟩))
  have keep : ∀ (j : Nat) y, vs[j]? = some y → 4 ≤ y.phase → ws[j]? = some y := by
    intro j y hj h4
    have n1 : j ≠ i := fun e => by subst e; rw [ha] at hj; cases hj; omega
    have n2 : j ≠ k := fun e => by subst e; rw [hb] at hj; cases hj; omega
    have hjl := (List.getElem?_eq_some_iff.1 hj).1
    rw [← hvs3, List.getElem?_append_left (by omega), List.getElem?_set, if_neg (Ne.symm n2), List.getElem?_set, if_neg (Ne.symm n1)]; exact hj
  obtain ⟨w1, w2, w3⟩ := ame hw
  refine ⟨by rw [← hvs3, List.length_append, hlen]; simp; omega, fun j y hj => ?_, fun j j' y z hj hj' e => ?_⟩
  · rcases cases3 j y hj with ⟨rfl, rfl⟩ | ⟨rfl, rfl⟩ | ⟨rfl, rfl⟩ | ⟨n1, n2, hj⟩
    · refine ⟨by simp [aan], fun h5 => absurd rfl h5, fun _ => ⟨sid, ⟨?_, ?_⟩, ⟨?_, ?_⟩, aaa a b, ?_, rfl⟩, fun h5 => ?_, fun _ => ⟨w1, w2, w3⟩, fun h5 => ?_, by simp [aan], ?_⟩
      · show 1 ≤ a.id; omega
      · show a.id ≤ 48; omega
      · show 1 ≤ b.id; omega
      · show b.id ≤ 48; omega
      · show ws[(a.id - 1).toNat]? = _
        rw [ia, show ((i : Int) + 1 - 1).toNat = i by omega]; exact gA
      · exact absurd h5 (by simp [aan])
      · exact absurd h5 (by simp [aan])
      · show 1 ≤ (uu a.home b.home).1 ∧ (uu a.home b.home).1 ≤ 3
        have := VA.hb; have := VB.hb; omega
    · refine ⟨by simp [aaa], fun _ => ia, fun h5 => absurd h5 (by simp [aaa]), fun h5 => absurd h5 (by simp [aaa]), fun _ => VA.full (by omega), fun _ => ⟨k, aaw a b, vs.length, _, gB, rfl, rfl, rfl, rfl, fun e => hh e.symm, gS, rfl, rfl, ?_⟩, VA.used, VA.hb⟩
      show (uu a.home b.home).1 + a.home + b.home = 6
      omega
    · refine ⟨by simp [aaw], fun _ => ib, fun h5 => absurd h5 (by simp [aaw]), fun h5 => absurd h5 (by simp [aaw]), fun _ => VB.full (by omega), fun _ => ⟨i, aaa a b, vs.length, _, gA, rfl, rfl, rfl, rfl, hh, gS, rfl, rfl, ?_⟩, VB.used, VB.hb⟩
      show (uu a.home b.home).1 + b.home + a.home = 6
      omega
    · have hY := h.ok j y hj
      refine ⟨hY.ph, hY.id, fun h5 => ?_, hY.bare, hY.full, fun h4 => ?_, hY.used, hY.hb⟩
      · obtain ⟨q1, q2, q3, a', q4, q5⟩ := hY.sumid h5
        exact ⟨q1, q2, q3, a', keep _ _ q4 (by omega), q5⟩
      · obtain ⟨k', w', m, s, q1, q0, q2, q3, q4, q5, q6, q7, q8, q9⟩ := hY.twin h4
        exact ⟨k', w', m, s, keep _ _ q1 (by omega), q0, q2, q3, q4, q5, keep _ _ q6 (by omega), q7, q8, q9⟩
  · have back : ∀ (j : Nat) y, ws[j]? = some y → (j = vs.length ∧ y.id = ae8 a.id b.id) ∨ ∃ y', vs[j]? = some y' ∧ y'.id = y.id := by
      intro j y hj
      rcases cases3 j y hj with ⟨rfl, rfl⟩ | ⟨rfl, rfl⟩ | ⟨rfl, rfl⟩ | ⟨n1, n2, hj⟩
      · exact .inl ⟨rfl, rfl⟩
      · exact .inr ⟨a, ha, rfl⟩
      · exact .inr ⟨b, hb, rfl⟩
      · exact .inr ⟨y, hj, rfl⟩
    have no : ∀ (j : Nat) y, vs[j]? = some y → y.id ≠ ae8 a.id b.id := by
      intro j y hj e
      have hY := h.ok j y hj
      have hjl := (List.getElem?_eq_some_iff.1 hj).1
      by_cases h5 : y.phase = 5
      · obtain ⟨q1, q2, q3, a', q4, q5⟩ := hY.sumid h5
        have : y.pair = a.id := by omega
        rw [this, ia, show ((i : Int) + 1 - 1).toNat = i by omega, ha] at q4
        cases q4; omega
      · have := hY.id h5; omega
    rcases back j y hj with ⟨e1, e2⟩ | ⟨y', g1, g2⟩
    · rcases back j' z hj' with ⟨f1, f2⟩ | ⟨z', k1, k2⟩
      · omega
      · exact absurd (by rw [k2, ← e, e2]) (no j' z' k1)
    · rcases back j' z hj' with ⟨f1, f2⟩ | ⟨z', k1, k2⟩
      · exact absurd (by rw [g2, e, f2]) (no j y' g1)
      · exact h.uniq j j' y' z' g1 k1 (by rw [g2, k2]; exact e)
def ix0 : Ix := ⟨[], [], []⟩
theorem Inv.vol {x : Ix} (h : Inv x.vols) {j : Nat} {v : Vl} (hv : x.vols[j]? = some v) : ol x v.id = j ∧ asy x v.id = v := by
  have hjl := (List.getElem?_eq_some_iff.1 hv).1
  have hg : x.vols.getD j default = v := by rw [List.getD_eq_getElem?_getD, hv]; rfl
  have e : ol x v.id = j := by
    refine aay hjl (fun k hk => ?_) (by rw [hg]; exact beq_self_eq_true _)
    have hk' : x.vols[k]? = some (x.vols.getD k default) := by rw [List.getD_eq_getElem?_getD, List.getElem?_eq_getElem (by omega)]; rfl
    rw [beq_eq_false_iff_ne]
    exact fun e => by have := h.uniq k j _ _ hk' hv e; omega
  refine ⟨e, ?_⟩
  show abq _ _ = v
  unfold abq
  rw [show qc (fun v_1 : Vl => v_1.id == v.id) x.vols = (j : Int) from e, if_neg (by omega), Int.toNat_natCast, hg]
end Go.Proofs.Ytbpjaiemlkcccaa.Pv
end
