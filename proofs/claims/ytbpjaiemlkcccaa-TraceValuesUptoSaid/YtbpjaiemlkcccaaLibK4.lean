import Derived.Test.YtbpjaiemlkcccaaLibImpA
import Derived.Test.YtbpjaiemlkcccaaLibK1
import Derived.Test.YtbpjaiemlkcccaaLibK3
set_option linter.unusedVariables false
set_option linter.unusedSimpArgs false
section
/- Indexes in the program itself: bytes named, where no name was yet. -/
namespace Go.Proofs.Ytbpjaiemlkcccaa.Pv
open Go
set_option maxRecDepth 100000
theorem anq (σ : Sto) : jo Try.prog 92 [.sl .sh 5 (([] : List Nm).map nm)] σ fun r s' => r = .xsl 0 0 5 0 0 ∧ s' = σ := by
  refine ny tab Try.func92 rfl (nlb rfl) (by decide) fun hso => ?_
  repeat' (first | (apply bn; (first | (apply bv; (apply bu (tt := tt); (focus (conv => lhs; whnf); try exact rfl); exact rfl)) | (apply ai; (apply aa9 (tt := tt); exact rfl; exact rfl)) | (apply ak))) | (apply bq; (first | (apply bg) | (apply ah))) | (apply bf))
  refine aa4 (tt := tt) tab rfl rfl rfl ?_
  intro b hb
  cases b
  · repeat' (first | (apply bn; (first | (apply bv; (apply bu (tt := tt); (focus (conv => lhs; whnf); try exact rfl); exact rfl)) | (apply mi; (apply ac2 tab; exact rfl; exact rfl)) | (apply ak))) | (apply bq; (first | (apply bg) | (apply ah) | (apply dm; exact rfl; (exact rfl)) | (apply gz))) | (apply bf))
    refine acw tab rfl rfl rfl rfl rfl rfl (.sl _) rfl ?_
    repeat' (first | (apply bn; (first | (apply ai; (apply az (tt := tt); (focus (conv => lhs; whnf); try exact rfl); exact rfl)) | (apply ak))) | (apply bq; (apply dn)) | (apply bf))
    (change gu _ _ _ _ _ _ _; apply fu; (exact .inr rfl); (focus (repeat' (first | (apply lc; (focus (conv => lhs; whnf); try exact rfl); (exact Wk.same _)) | exact iq))); exact rfl; (exact (List.append_nil _).symm); exact Nat.le_refl _; (focus (repeat' (first | exact trivial | exact .inl rfl | refine ⟨?_, ?_⟩))); exact hso)
    exact ⟨rfl, rfl⟩
  · repeat' (first | (apply bn; (first | (apply ai; (apply aa9 (tt := tt); exact rfl; exact rfl)) | (apply ak))) | (apply bq; (first | (apply bg) | (apply ah) | (apply df; exact rfl; (exact rfl)) | (apply dn))) | (apply bf) | (apply lq))
    (change gu _ _ _ _ _ _ _; apply fu; (exact .inr rfl); (focus (repeat' (first | (apply lc; (focus (conv => lhs; whnf); try exact rfl); (exact Wk.same _)) | exact iq))); exact rfl; (exact (List.append_nil _).symm); exact Nat.le_refl _; (focus (repeat' (first | exact trivial | exact .inl rfl | refine ⟨?_, ?_⟩))); exact hso)
    exact ⟨rfl, rfl⟩
set_option maxHeartbeats 8000000 in
theorem apl (V : List Vl) (L : List Ss) (c : Cm) (hl : V.length ≤ 1048576) (hnl : ([] : List Nm).length ≤ 1048576) (hpa : ∀ v ∈ V, v.parts.length ≤ 1048576) (ho : 0 ≤ c.off ∧ c.off ≤ 1048576) (hn : 0 ≤ c.n ∧ c.n ≤ 1048576) (hg : wm c.name ⟨#[]⟩ = false ∧ ¬ ol (⟨V, [], L⟩ : Ix) c.vol < 0 ∧ (V.getD (ol (⟨V, [], L⟩ : Ix) c.vol).toNat default).phase = 1 ∧ ¬ (c.n = 0 ∨ (V.getD (ol (⟨V, [], L⟩ : Ix) c.vol).toNat default).used < c.off + c.n) ∧ u7 (⟨V, [], L⟩ : Ix) c.name < 0 ∧ ([] : List Nm).length < 64) (σ : Sto) : jo Try.prog 75 [ix (⟨V, [], L⟩ : Ix), cm c] σ fun r σ' => r = .tup [ix (aco (⟨V, [], L⟩ : Ix) c).1, rp (aco (⟨V, [], L⟩ : Ix) c).2] ∧ σ' = σ := by
  refine ny tab Try.func75 rfl (nlb rfl) (by decide) fun hso => oh ?_
  have v1 := abv (⟨V, [], L⟩ : Ix) c.vol hl
  have n1 := afo (⟨V, [], L⟩ : Ix) c.name hnl
  obtain ⟨h0', h1, h2, h3, hk, h64⟩ := hg
  unfold aco
  dsimp only
  rw [if_neg (by rw [h0']; decide), if_neg h1, if_neg (fun h => h h2), if_neg h3, if_neg (by omega)]
  have c1 : decide (ol (⟨V, [], L⟩ : Ix) c.vol < 0) = false := decide_eq_false h1
  have i0 : 0 ≤ ol (⟨V, [], L⟩ : Ix) c.vol := by omega
  have i1 : (ol (⟨V, [], L⟩ : Ix) c.vol).toNat < V.length := x9 (p := (fun v : Vl => v.id == c.vol)) (xs := V) i0
  have hN : adj (⟨V, [], L⟩ : Ix) c = aby ([] : List Nm) (if qc (gtN c.name) ([] : List Nm) < 0 then ([] : List Nm).length else (qc (gtN c.name) ([] : List Nm)).toNat) (abh c) := by
    unfold adj; rw [if_neg (by omega)]
  have hpl := hpa _ (uq i1)
  rw [abp h1] at v1
  dsimp only at v1
  generalize ol (⟨V, [], L⟩ : Ix) c.vol = i at *
  generalize aij (⟨V, [], L⟩ : Ix) c.name = w at *
  generalize u7 (⟨V, [], L⟩ : Ix) c.name = k at *
  generalize V.getD i.toNat default = v at *
  generalize adj (⟨V, [], L⟩ : Ix) c = nms at *
  have c2 : (v.phase != 1) = false := by simpa using h2
  have c4 : (c.n == 0) = false := by
    rw [beq_eq_false_iff_ne]; exact fun h => h3 (.inl h)
  have c5 : decide (v.used < c.off + c.n) = false := decide_eq_false fun h => h3 (.inr h)
  have w0 := ahw v.parts (-1) (c.off, c.n) hpl (.inl (by omega))
  rw [show ql v.parts (-1) (c.off, c.n) = (aa6 v c).parts from if_pos (by omega)] at w0
  have w1 := aak V i (aa6 v c) hl (.inr i1)
  rw [show vl (aa6 v c) = .agg [.int .i64 v.id, .int .i64 v.home, .int .i64 v.mate, .int .i64 v.used, .int .i64 v.phase, .sl .sh 2 ((aa6 v c).parts.map plc), .sl .sh 2 (v.places.map plc), .int .i64 v.pair, .int .i64 v.sum] from rfl] at w1
  generalize ql V i (aa6 v c) = vs1 at *
  generalize (aa6 v c).parts = ps at *
  have c6 : decide (k < 0) = true := decide_eq_true hk
  have c6' : decide (0 ≤ k) = false := decide_eq_false (by omega)
  rw [c6']
  have c7 : decide (64 ≤ (([] : List Nm).length : Int)) = false := decide_eq_false (by omega)
  have c7m : decide (64 ≤ ((([] : List Nm).map nm).length : Int)) = false := by rw [List.length_map]; exact c7
  have hC0 := anq
  have hI0 := alf (abh c)
  repeat' (first | (apply bn; (first | (apply jq; (apply jc; exact (rfl : _ = some _); exact (rfl : _ = PV.bool _); (assumption))) | (apply bv; (apply bu (tt := tt); (focus (conv => lhs; whnf); try exact rfl); exact rfl)) | (apply ai; (apply az (tt := tt); (focus (conv => lhs; whnf); try exact rfl); exact rfl)) | (apply ji; (first | (refine cz (tt := tt) tu (v1 _) rfl rfl rfl rfl rfl ?_) | (refine cz (tt := tt) acz (n1 _) rfl rfl rfl rfl rfl ?_) | (refine cz (tt := tt) apj (w0 _) rfl rfl rfl rfl rfl ?_) | (refine cz (tt := tt) ad4 (w1 _) rfl rfl rfl rfl rfl ?_))) | (apply dw; (apply di true tab; (focus (conv => lhs; whnf; arg 1; whnf; arg 2; whnf); try exact rfl); (first | exact trivial | (simp only [InR]; omega)); exact rfl)) | (apply kr; (apply ku (tt := tt); exact (rfl : _ = PV.bool _); (first | refine .inl ⟨by assumption, ?_⟩ | refine .inr ⟨by assumption, ?_⟩); (focus (conv => lhs; whnf); try exact rfl); exact ltn rfl)) | (apply fq; (apply aa; (apply aj tab; exact rfl; exact rfl; exact rfl; (focus (conv => lhs; whnf; arg 1; whnf; arg 2; whnf); try skip); (first | exact trivial | exact nlb rfl)); (intro c h; cases h); exact rfl)) | (apply jr; (apply ni tab; (focus (conv => lhs; whnf; arg 1; whnf; arg 2; whnf); try exact rfl); (exact trivial); exact rfl)) | (apply cu; (apply aa; (apply af tab; exact rfl; (focus (conv => lhs; whnf); try exact rfl); exact rfl; (first | exact (rfl : _ = 0) | exact (rfl : _ = 1) | exact (rfl : _ = 3) | exact (rfl : _ = 4) | exact (rfl : _ = 5) | exact (rfl : _ = 6) | exact (rfl : _ = 7))); (intro c h; cases h); exact rfl)) | (apply iw; (apply iy (tt := tt); (focus (conv => lhs; whnf; arg 1; whnf; arg 2; whnf); try exact rfl); (exact trivial); exact rfl)) | (apply gq; (apply dz tab; exact rfl; exact rfl; exact rfl; exact rfl; exact rfl; exact rfl; exact rfl; exact rfl)) | (apply pq; (apply aa; (apply gy tab; exact rfl; (focus (conv => lhs; whnf; arg 1; whnf; arg 2; whnf); try skip)); (intro c h; cases h); exact rfl)) | (apply qd; (apply aa; (apply dx (tt := tt); exact rfl; exact rfl; (focus (conv => lhs; whnf); try exact rfl)); (intro c h; cases h); exact rfl)) | (apply je; (apply ik tab; exact rfl; exact rfl; (first | exact (rfl : _ = 2) | exact (rfl : _ = 3) | exact (rfl : _ = 4) | exact (rfl : _ = 5) | exact (rfl : _ = 6)); exact rfl)) | (apply lu; (apply kg (tt := tt); (focus (conv => lhs; whnf); try exact rfl); exact rfl; (first | exact (rfl : _ = 0) | exact (rfl : _ = 1)); exact rfl)) | (apply ak))) | (apply bq; (first | (apply bg) | (apply ah) | (apply dm; exact rfl; (first | exact rfl | assumption)) | (apply gz) | (apply ed))) | (apply bf) | (apply ng))
  refine aa1 [(2, .ptr (σ.length + 0) 0), (3, .ptr (σ.length + 1) 0), (4, .ptr (σ.length + 2) 0), (5, .ptr (σ.length + 3) 0), (10, .ptr (σ.length + 6) 0), (109, .sl .sh 5 (([] : List Nm).map nm)), (110, .fn (.func 90) [] [.ptr (σ.length + 1) 0])] ?_ (zk (σ' := σ ++ [.cells [.sl .sh 9 (vs1.map vl), .sl .sh 5 (([] : List Nm).map nm), .sl .sh 8 (L.map ss)], .cells (cm c).cells, .cells [.sl .ow 9 [], .sl .ow 5 [], .sl .ow 8 []], .cells [.int .i64 0, .int .i64 0, .int .i64 0, .int .i64 0, .int .u32 0, .bool false], .cells [.int .i64 v.id, .int .i64 v.home, .int .i64 v.mate, .int .i64 v.used, .int .i64 v.phase, .sl .sh 2 (ps.map plc), .sl .sh 2 (v.places.map plc), .int .i64 v.pair, .int .i64 v.sum], .cells (nm w).cells, .cells (nm (abh c)).cells]) rfl ?_)
  · (repeat' (first | exact trivial | exact Wk.same _ | refine ⟨?_, ?_⟩))
  refine cz (tt := tt) apg (ahf (gtN c.name) [] hnl _ aux (fun ex y _ => anp y (σ.length + 1) c _ ?_) ?_) rfl rfl rfl rfl rfl ?_
  rotate_left 2
  · repeat' (first | (apply bn; (first | (apply bv; (apply bu (tt := tt); (focus (conv => lhs; whnf); try exact rfl); exact rfl)) | (apply ai; (apply az (tt := tt); (focus (conv => lhs; whnf); try exact rfl); exact rfl)) | (apply ji; (refine cz (tt := tt) ao5 (hI0 _) rfl rfl rfl rfl rfl ?_)) | (apply dw; (apply di true tab; (focus (conv => lhs; whnf; arg 1; whnf; arg 2; whnf); try exact rfl); (exact trivial); exact rfl)) | (apply fq; (apply aa; (apply aj tab; exact rfl; exact rfl; exact rfl; (focus (conv => lhs; whnf; arg 1; whnf; arg 2; whnf); try skip); (first | exact trivial | exact nlb rfl)); (intro c h; cases h); exact rfl)) | (apply jr; (apply ni tab; (focus (conv => lhs; whnf; arg 1; whnf; arg 2; whnf); try exact rfl); (exact trivial); exact rfl)) | (apply cu; (apply aa; (apply af tab; exact rfl; (focus (conv => lhs; whnf); try exact rfl); exact rfl; (exact (rfl : _ = 1))); (intro c h; cases h); exact rfl)) | (apply iw; (apply iy (tt := tt); (focus (conv => lhs; whnf; arg 1; whnf; arg 2; whnf); try exact rfl); (exact trivial); exact rfl)) | (apply gq; (apply dz tab; exact rfl; exact rfl; exact rfl; exact rfl; exact rfl; exact rfl; exact rfl; exact rfl)) | (apply pq; (apply aa; (apply gy tab; exact rfl; (focus (conv => lhs; whnf; arg 1; whnf; arg 2; whnf); try skip)); (intro c h; cases h); exact rfl)) | (apply je; (apply ik tab; exact rfl; exact rfl; (exact (rfl : _ = 7)); exact rfl)) | (apply ak))) | (apply bq; (first | (apply bg) | (apply ah) | (apply df; exact rfl; (exact rfl)) | (apply dn) | (apply ko (k := 6); exact mixed; decide +kernel; decide +kernel))) | (apply bf) | (apply p9; (first | (refine og (nu (tt := tt) aik (hC0 _) rfl rfl rfl rfl rfl) ?_) | (apply p8; (first | (apply jg; (apply jf (tt := tt); (focus (conv => lhs; whnf); try exact rfl))) | (apply dh; (apply af tab; exact rfl; (focus (conv => lhs; whnf); try exact rfl); exact rfl; (exact (rfl : _ = 1)))) | (apply gm; (apply aj tab; exact rfl; exact rfl; exact rfl; (focus (conv => lhs; whnf; arg 1; whnf; arg 2; whnf); try skip); (first | exact trivial | exact nlb rfl)))); exact rfl; exact rfl) | (apply aab tab; exact rfl; (focus ((repeat (apply mh; (focus (conv => lhs; whnf); try exact rfl))); exact nk)); exact rfl; exact rfl; exact rfl; exact rfl; exact rfl; exact rfl) | (apply oz))))
    (change gu _ _ _ _ _ _ _; apply fu; (exact .inr rfl); (focus (repeat' (first | (apply mr; exact rfl; exact rfl; exact rfl; (focus (conv => lhs; whnf; arg 1; whnf; arg 2; whnf); try skip); (exact nlb rfl)) | exact iq))); exact rfl; (exact rfl); exact Nat.le_refl _; (focus (repeat' (first | exact trivial | refine ⟨?_, ?_⟩))); exact hso)
    exact ⟨by rw [hN]; rfl, rfl⟩
  · exact ag (wo _)
  · rfl
set_option maxHeartbeats 8000000 in
theorem aqj (x : Ix) (c : Cm) (hl : x.vols.length ≤ 1048576) (hnl : x.names.length ≤ 1048576) (hpa : ∀ v ∈ x.vols, v.parts.length ≤ 1048576) (ho : 0 ≤ c.off ∧ c.off ≤ 1048576) (hn : 0 ≤ c.n ∧ c.n ≤ 1048576) (hg : wm c.name ⟨#[]⟩ = false ∧ ¬ ol x c.vol < 0 ∧ (x.vols.getD (ol x c.vol).toNat default).phase = 1 ∧ ¬ (c.n = 0 ∨ (x.vols.getD (ol x c.vol).toNat default).used < c.off + c.n) ∧ u7 x c.name < 0 ∧ x.names.length < 64) (hx : x.names = []) (σ : Sto) : jo Try.prog 75 [ix x, cm c] σ fun r σ' => r = .tup [ix (aco x c).1, rp (aco x c).2] ∧ σ' = σ := by
  obtain ⟨V, Ns, L⟩ := x
  dsimp only at hx
  subst hx
  exact apl V L c hl hnl hpa ho hn hg σ
end Go.Proofs.Ytbpjaiemlkcccaa.Pv
end
section
/- Indexes in the program itself: bytes named. -/
namespace Go.Proofs.Ytbpjaiemlkcccaa.Pv
open Go
set_option maxRecDepth 100000
set_option maxHeartbeats 8000000 in
theorem atu (x : Ix) (c : Cm) (hl : x.vols.length ≤ 1048576) (hnl : x.names.length ≤ 1048576) (hpa : ∀ v ∈ x.vols, v.parts.length ≤ 1048576) (ho : 0 ≤ c.off ∧ c.off ≤ 1048576) (hn : 0 ≤ c.n ∧ c.n ≤ 1048576) (σ : Sto) : jo Try.prog 75 [ix x, cm c] σ fun r σ' => r = .tup [ix (aco x c).1, rp (aco x c).2] ∧ σ' = σ := by
  by_cases hg : wm c.name ⟨#[]⟩ = false ∧ ¬ ol x c.vol < 0 ∧ (x.vols.getD (ol x c.vol).toNat default).phase = 1 ∧ ¬ (c.n = 0 ∨ (x.vols.getD (ol x c.vol).toNat default).used < c.off + c.n) ∧ u7 x c.name < 0 ∧ x.names.length < 64
  · by_cases hx : x.names = []
    · exact aqj x c hl hnl hpa ho hn hg hx σ
    · exact ar4 x c hl hnl hpa ho hn hg hx σ
  refine ny tab Try.func75 rfl (nlb rfl) (by decide) fun hso => oh ?_
  have v1 := abv x c.vol hl
  have n1 := afo x c.name hnl
  unfold aco
  by_cases h0 : wm c.name ⟨#[]⟩ = true
  · rw [if_pos h0]
    repeat' (first | (apply bn; (first | (apply bv; (apply bu (tt := tt); (focus (conv => lhs; whnf); try exact rfl); exact rfl)) | (apply ai; (apply az (tt := tt); (focus (conv => lhs; whnf); try exact rfl); exact rfl)) | (apply ji; (first | (refine cz (tt := tt) tu (v1 _) rfl rfl rfl rfl rfl ?_) | (refine cz (tt := tt) acz (n1 _) rfl rfl rfl rfl rfl ?_))) | (apply dw; (apply di true tab; (focus (conv => lhs; whnf; arg 1; whnf; arg 2; whnf); try exact rfl); (exact trivial); exact rfl)) | (apply fq; (apply aa; (apply aj tab; exact rfl; exact rfl; exact rfl; (focus (conv => lhs; whnf; arg 1; whnf; arg 2; whnf); try skip); (first | exact trivial | exact nlb rfl)); (intro c h; cases h); exact rfl)) | (apply cu; (apply aa; (apply af tab; exact rfl; (focus (conv => lhs; whnf); try exact rfl); exact rfl; (first | exact (rfl : _ = 3) | exact (rfl : _ = 4))); (intro c h; cases h); exact rfl)) | (apply iw; (apply iy (tt := tt); (focus (conv => lhs; whnf; arg 1; whnf; arg 2; whnf); try exact rfl); (exact trivial); exact rfl)) | (apply gq; (apply dz tab; exact rfl; exact rfl; exact rfl; exact rfl; exact rfl; exact rfl; exact rfl; exact rfl)) | (apply je; (apply ik tab; exact rfl; exact rfl; (first | exact (rfl : _ = 2) | exact (rfl : _ = 3) | exact (rfl : _ = 4) | exact (rfl : _ = 5)); exact rfl)) | (apply lu; (apply kg (tt := tt); (focus (conv => lhs; whnf); try exact rfl); exact rfl; (first | exact (rfl : _ = 0) | exact (rfl : _ = 1)); exact rfl)) | (apply ak))) | (apply bq; (first | (apply bg) | (apply ah) | (apply df; exact rfl; (assumption)) | (apply dn) | (apply ed) | (apply ko (k := 2); exact mixed; decide +kernel; decide +kernel))) | (apply bf) | (apply lq) | (apply om) | (apply p9; (first | (refine og (nu (tt := tt) u6 (rz _ _) rfl rfl rfl rfl rfl) ?_) | (apply p8; (apply gm; (apply aj tab; exact rfl; exact rfl; exact rfl; (focus (conv => lhs; whnf; arg 1; whnf; arg 2; whnf); try skip); (exact nlb rfl))); exact rfl; exact rfl) | (apply oz))))
    (change gu _ _ _ _ _ _ _; apply fu; (exact .inr rfl); (focus (repeat' (first | (apply mr; exact rfl; exact rfl; exact rfl; (focus (conv => lhs; whnf; arg 1; whnf; arg 2; whnf); try skip); (exact nlb rfl)) | exact iq))); exact rfl; (exact rfl); exact Nat.le_refl _; (focus (repeat' (first | exact trivial | refine ⟨?_, ?_⟩))); exact hso)
    exact ⟨rfl, rfl⟩
  rw [if_neg h0]
  have h0' : wm c.name ⟨#[]⟩ = false := by simpa using h0
  by_cases h1 : ol x c.vol < 0
  · rw [if_pos h1]
    have c1 : decide (ol x c.vol < 0) = true := decide_eq_true h1
    repeat' (first | (apply bn; (first | (apply bv; (apply bu (tt := tt); (focus (conv => lhs; whnf); try exact rfl); exact rfl)) | (apply ai; (apply az (tt := tt); (focus (conv => lhs; whnf); try exact rfl); exact rfl)) | (apply ji; (first | (refine cz (tt := tt) tu (v1 _) rfl rfl rfl rfl rfl ?_) | (refine cz (tt := tt) acz (n1 _) rfl rfl rfl rfl rfl ?_))) | (apply dw; (apply di true tab; (focus (conv => lhs; whnf; arg 1; whnf; arg 2; whnf); try exact rfl); (exact trivial); exact rfl)) | (apply fq; (apply aa; (apply aj tab; exact rfl; exact rfl; exact rfl; (focus (conv => lhs; whnf; arg 1; whnf; arg 2; whnf); try skip); (first | exact trivial | exact nlb rfl)); (intro c h; cases h); exact rfl)) | (apply cu; (apply aa; (apply af tab; exact rfl; (focus (conv => lhs; whnf); try exact rfl); exact rfl; (first | exact (rfl : _ = 3) | exact (rfl : _ = 4))); (intro c h; cases h); exact rfl)) | (apply iw; (apply iy (tt := tt); (focus (conv => lhs; whnf; arg 1; whnf; arg 2; whnf); try exact rfl); (exact trivial); exact rfl)) | (apply gq; (apply dz tab; exact rfl; exact rfl; exact rfl; exact rfl; exact rfl; exact rfl; exact rfl; exact rfl)) | (apply je; (apply ik tab; exact rfl; exact rfl; (first | exact (rfl : _ = 2) | exact (rfl : _ = 3) | exact (rfl : _ = 4) | exact (rfl : _ = 5)); exact rfl)) | (apply lu; (apply kg (tt := tt); (focus (conv => lhs; whnf); try exact rfl); exact rfl; (first | exact (rfl : _ = 0) | exact (rfl : _ = 1)); exact rfl)) | (apply ak))) | (apply bq; (first | (apply bg) | (apply ah) | (apply df; exact rfl; (assumption)) | (apply dm; exact rfl; (assumption)) | (apply dn) | (apply ed) | (apply ko (k := 2); exact mixed; decide +kernel; decide +kernel))) | (apply bf) | (apply lq) | (apply om) | (apply p9; (first | (refine og (nu (tt := tt) u6 (rz _ _) rfl rfl rfl rfl rfl) ?_) | (apply p8; (apply gm; (apply aj tab; exact rfl; exact rfl; exact rfl; (focus (conv => lhs; whnf; arg 1; whnf; arg 2; whnf); try skip); (exact nlb rfl))); exact rfl; exact rfl) | (apply oz))))
    (change gu _ _ _ _ _ _ _; apply fu; (exact .inr rfl); (focus (repeat' (first | (apply mr; exact rfl; exact rfl; exact rfl; (focus (conv => lhs; whnf; arg 1; whnf; arg 2; whnf); try skip); (exact nlb rfl)) | exact iq))); exact rfl; (exact rfl); exact Nat.le_refl _; (focus (repeat' (first | exact trivial | refine ⟨?_, ?_⟩))); exact hso)
    exact ⟨rfl, rfl⟩
  rw [if_neg h1]
  have c1 : decide (ol x c.vol < 0) = false := decide_eq_false h1
  have i0 : 0 ≤ ol x c.vol := by omega
  have i1 : (ol x c.vol).toNat < x.vols.length := x9 (p := (fun v : Vl => v.id == c.vol)) (xs := x.vols) i0
  have kq : u7 x c.name < 0 ∨ (0 ≤ u7 x c.name ∧ (u7 x c.name).toNat < x.names.length) := by
    rcases Int.lt_or_le (u7 x c.name) 0 with h | h
    · exact .inl h
    · exact .inr ⟨h, x9 (p := (fun n : Nm => wm n.name c.name)) (xs := x.names) h⟩
  have hN : adj x c = adj x c := rfl
  conv at hN => rhs; unfold adj
  have hpl := hpa _ (uq i1)
  rw [abp h1] at v1
  generalize ol x c.vol = i at *
  generalize aij x c.name = w at *
  generalize u7 x c.name = k at *
  generalize x.vols.getD i.toNat default = v at *
  generalize adj x c = nms at *
  by_cases h2 : v.phase ≠ 1
  · rw [if_pos h2]
    have c2 : (v.phase != 1) = true := by simpa using h2
    repeat' (first | (apply bn; (first | (apply bv; (apply bu (tt := tt); (focus (conv => lhs; whnf); try exact rfl); exact rfl)) | (apply ai; (apply az (tt := tt); (focus (conv => lhs; whnf); try exact rfl); exact rfl)) | (apply ji; (first | (refine cz (tt := tt) tu (v1 _) rfl rfl rfl rfl rfl ?_) | (refine cz (tt := tt) acz (n1 _) rfl rfl rfl rfl rfl ?_))) | (apply dw; (apply di true tab; (focus (conv => lhs; whnf; arg 1; whnf; arg 2; whnf); try exact rfl); (exact trivial); exact rfl)) | (apply fq; (apply aa; (apply aj tab; exact rfl; exact rfl; exact rfl; (focus (conv => lhs; whnf; arg 1; whnf; arg 2; whnf); try skip); (first | exact trivial | exact nlb rfl)); (intro c h; cases h); exact rfl)) | (apply cu; (apply aa; (apply af tab; exact rfl; (focus (conv => lhs; whnf); try exact rfl); exact rfl; (first | exact (rfl : _ = 3) | exact (rfl : _ = 4))); (intro c h; cases h); exact rfl)) | (apply iw; (apply iy (tt := tt); (focus (conv => lhs; whnf; arg 1; whnf; arg 2; whnf); try exact rfl); (exact trivial); exact rfl)) | (apply gq; (apply dz tab; exact rfl; exact rfl; exact rfl; exact rfl; exact rfl; exact rfl; exact rfl; exact rfl)) | (apply je; (apply ik tab; exact rfl; exact rfl; (first | exact (rfl : _ = 2) | exact (rfl : _ = 3) | exact (rfl : _ = 4) | exact (rfl : _ = 5)); exact rfl)) | (apply lu; (apply kg (tt := tt); (focus (conv => lhs; whnf); try exact rfl); exact rfl; (first | exact (rfl : _ = 0) | exact (rfl : _ = 1)); exact rfl)) | (apply ak))) | (apply bq; (first | (apply bg) | (apply ah) | (apply df; exact rfl; (assumption)) | (apply dm; exact rfl; (assumption)) | (apply dn) | (apply ed) | (apply ko (k := 2); exact mixed; decide +kernel; decide +kernel))) | (apply bf) | (apply lq) | (apply om) | (apply p9; (first | (refine og (nu (tt := tt) u6 (rz _ _) rfl rfl rfl rfl rfl) ?_) | (apply p8; (apply gm; (apply aj tab; exact rfl; exact rfl; exact rfl; (focus (conv => lhs; whnf; arg 1; whnf; arg 2; whnf); try skip); (exact nlb rfl))); exact rfl; exact rfl) | (apply oz))))
    (change gu _ _ _ _ _ _ _; apply fu; (exact .inr rfl); (focus (repeat' (first | (apply mr; exact rfl; exact rfl; exact rfl; (focus (conv => lhs; whnf; arg 1; whnf; arg 2; whnf); try skip); (exact nlb rfl)) | exact iq))); exact rfl; (exact rfl); exact Nat.le_refl _; (focus (repeat' (first | exact trivial | refine ⟨?_, ?_⟩))); exact hso)
    exact ⟨rfl, rfl⟩
  rw [if_neg h2]
  have c2 : (v.phase != 1) = false := by simpa using h2
  by_cases h3 : c.n = 0 ∨ v.used < c.off + c.n
  · rw [if_pos h3]
    by_cases h4 : c.n = 0
    · have c4 : (c.n == 0) = true := by simpa using h4
      repeat' (first | (apply bn; (first | (apply jq; (apply ky; exact (rfl : _ = some _); exact (rfl : _ = PV.bool _); (assumption); exact ltn rfl)) | (apply bv; (apply bu (tt := tt); (focus (conv => lhs; whnf); try exact rfl); exact rfl)) | (apply ai; (apply az (tt := tt); (focus (conv => lhs; whnf); try exact rfl); exact rfl)) | (apply ji; (first | (refine cz (tt := tt) tu (v1 _) rfl rfl rfl rfl rfl ?_) | (refine cz (tt := tt) acz (n1 _) rfl rfl rfl rfl rfl ?_))) | (apply dw; (apply di true tab; (focus (conv => lhs; whnf; arg 1; whnf; arg 2; whnf); try exact rfl); (exact trivial); exact rfl)) | (apply kr; (apply ku (tt := tt); exact (rfl : _ = PV.bool _); (refine .inl ⟨by assumption, ?_⟩); (focus (conv => lhs; whnf); try exact rfl); exact ltn rfl)) | (apply fq; (apply aa; (apply aj tab; exact rfl; exact rfl; exact rfl; (focus (conv => lhs; whnf; arg 1; whnf; arg 2; whnf); try skip); (first | exact trivial | exact nlb rfl)); (intro c h; cases h); exact rfl)) | (apply cu; (apply aa; (apply af tab; exact rfl; (focus (conv => lhs; whnf); try exact rfl); exact rfl; (first | exact (rfl : _ = 3) | exact (rfl : _ = 4) | exact (rfl : _ = 6))); (intro c h; cases h); exact rfl)) | (apply iw; (apply iy (tt := tt); (focus (conv => lhs; whnf; arg 1; whnf; arg 2; whnf); try exact rfl); (exact trivial); exact rfl)) | (apply gq; (apply dz tab; exact rfl; exact rfl; exact rfl; exact rfl; exact rfl; exact rfl; exact rfl; exact rfl)) | (apply je; (apply ik tab; exact rfl; exact rfl; (first | exact (rfl : _ = 2) | exact (rfl : _ = 3) | exact (rfl : _ = 4) | exact (rfl : _ = 5)); exact rfl)) | (apply lu; (apply kg (tt := tt); (focus (conv => lhs; whnf); try exact rfl); exact rfl; (first | exact (rfl : _ = 0) | exact (rfl : _ = 1)); exact rfl)) | (apply ak))) | (apply bq; (first | (apply bg) | (apply ah) | (apply df; exact rfl; (exact rfl)) | (apply dm; exact rfl; (assumption)) | (apply dn) | (apply ed) | (apply ko (k := 2); exact mixed; decide +kernel; decide +kernel))) | (apply bf) | (apply lq) | (apply om) | (apply p9; (first | (refine og (nu (tt := tt) u6 (rz _ _) rfl rfl rfl rfl rfl) ?_) | (apply p8; (apply gm; (apply aj tab; exact rfl; exact rfl; exact rfl; (focus (conv => lhs; whnf; arg 1; whnf; arg 2; whnf); try skip); (exact nlb rfl))); exact rfl; exact rfl) | (apply oz))))
      (change gu _ _ _ _ _ _ _; apply fu; (exact .inr rfl); (focus (repeat' (first | (apply mr; exact rfl; exact rfl; exact rfl; (focus (conv => lhs; whnf; arg 1; whnf; arg 2; whnf); try skip); (exact nlb rfl)) | exact iq))); exact rfl; (exact rfl); exact Nat.le_refl _; (focus (repeat' (first | exact trivial | refine ⟨?_, ?_⟩))); exact hso)
      exact ⟨rfl, rfl⟩
    · have c4 : (c.n == 0) = false := by simpa using h4
      have c5 : decide (v.used < c.off + c.n) = true := decide_eq_true (h3.resolve_left h4)
      repeat' (first | (apply bn; (first | (apply jq; (apply jc; exact (rfl : _ = some _); exact (rfl : _ = PV.bool _); (assumption))) | (apply bv; (apply bu (tt := tt); (focus (conv => lhs; whnf); try exact rfl); exact rfl)) | (apply ai; (apply az (tt := tt); (focus (conv => lhs; whnf); try exact rfl); exact rfl)) | (apply ji; (first | (refine cz (tt := tt) tu (v1 _) rfl rfl rfl rfl rfl ?_) | (refine cz (tt := tt) acz (n1 _) rfl rfl rfl rfl rfl ?_))) | (apply dw; (apply di true tab; (focus (conv => lhs; whnf; arg 1; whnf; arg 2; whnf); try exact rfl); (first | exact trivial | (simp only [InR]; omega)); exact rfl)) | (apply kr; (apply ku (tt := tt); exact (rfl : _ = PV.bool _); (refine .inr ⟨by assumption, ?_⟩); (focus (conv => lhs; whnf); try exact rfl); exact ltn rfl)) | (apply fq; (apply aa; (apply aj tab; exact rfl; exact rfl; exact rfl; (focus (conv => lhs; whnf; arg 1; whnf; arg 2; whnf); try skip); (first | exact trivial | exact nlb rfl)); (intro c h; cases h); exact rfl)) | (apply cu; (apply aa; (apply af tab; exact rfl; (focus (conv => lhs; whnf); try exact rfl); exact rfl; (first | exact (rfl : _ = 3) | exact (rfl : _ = 4) | exact (rfl : _ = 5) | exact (rfl : _ = 6))); (intro c h; cases h); exact rfl)) | (apply iw; (apply iy (tt := tt); (focus (conv => lhs; whnf; arg 1; whnf; arg 2; whnf); try exact rfl); (exact trivial); exact rfl)) | (apply gq; (apply dz tab; exact rfl; exact rfl; exact rfl; exact rfl; exact rfl; exact rfl; exact rfl; exact rfl)) | (apply je; (apply ik tab; exact rfl; exact rfl; (first | exact (rfl : _ = 2) | exact (rfl : _ = 3) | exact (rfl : _ = 4) | exact (rfl : _ = 5)); exact rfl)) | (apply lu; (apply kg (tt := tt); (focus (conv => lhs; whnf); try exact rfl); exact rfl; (first | exact (rfl : _ = 0) | exact (rfl : _ = 1)); exact rfl)) | (apply ak))) | (apply bq; (first | (apply bg) | (apply ah) | (apply df; exact rfl; (assumption)) | (apply dm; exact rfl; (assumption)) | (apply dn) | (apply ed) | (apply ko (k := 2); exact mixed; decide +kernel; decide +kernel))) | (apply bf) | (apply lq) | (apply om) | (apply p9; (first | (refine og (nu (tt := tt) u6 (rz _ _) rfl rfl rfl rfl rfl) ?_) | (apply p8; (apply gm; (apply aj tab; exact rfl; exact rfl; exact rfl; (focus (conv => lhs; whnf; arg 1; whnf; arg 2; whnf); try skip); (exact nlb rfl))); exact rfl; exact rfl) | (apply oz))))
      (change gu _ _ _ _ _ _ _; apply fu; (exact .inr rfl); (focus (repeat' (first | (apply mr; exact rfl; exact rfl; exact rfl; (focus (conv => lhs; whnf; arg 1; whnf; arg 2; whnf); try skip); (exact nlb rfl)) | exact iq))); exact rfl; (exact rfl); exact Nat.le_refl _; (focus (repeat' (first | exact trivial | refine ⟨?_, ?_⟩))); exact hso)
      exact ⟨rfl, rfl⟩
  rw [if_neg h3]
  have c4 : (c.n == 0) = false := by
    rw [beq_eq_false_iff_ne]; exact fun h => h3 (.inl h)
  have c5 : decide (v.used < c.off + c.n) = false := decide_eq_false fun h => h3 (.inr h)
  by_cases h6 : k < 0 ∧ 64 ≤ x.names.length
  · rw [if_pos h6]
    have c6 : decide (k < 0) = true := decide_eq_true h6.1
    have c7 : decide (64 ≤ (x.names.length : Int)) = true := decide_eq_true (by omega)
    have c7m : decide (64 ≤ ((x.names.map nm).length : Int)) = true := by rw [List.length_map]; exact c7
    repeat' (first | (apply bn; (first | (apply jq; (apply jc; exact (rfl : _ = some _); exact (rfl : _ = PV.bool _); (assumption))) | (apply bv; (apply bu (tt := tt); (focus (conv => lhs; whnf); try exact rfl); exact rfl)) | (apply ai; (apply az (tt := tt); (focus (conv => lhs; whnf); try exact rfl); exact rfl)) | (apply ji; (first | (refine cz (tt := tt) tu (v1 _) rfl rfl rfl rfl rfl ?_) | (refine cz (tt := tt) acz (n1 _) rfl rfl rfl rfl rfl ?_))) | (apply dw; (apply di true tab; (focus (conv => lhs; whnf; arg 1; whnf; arg 2; whnf); try exact rfl); (first | exact trivial | (simp only [InR]; omega)); exact rfl)) | (apply kr; (apply ku (tt := tt); exact (rfl : _ = PV.bool _); (first | refine .inl ⟨by assumption, ?_⟩ | refine .inr ⟨by assumption, ?_⟩); (focus (conv => lhs; whnf); try exact rfl); exact ltn rfl)) | (apply fq; (apply aa; (apply aj tab; exact rfl; exact rfl; exact rfl; (focus (conv => lhs; whnf; arg 1; whnf; arg 2; whnf); try skip); (first | exact trivial | exact nlb rfl)); (intro c h; cases h); exact rfl)) | (apply jr; (apply ni tab; (focus (conv => lhs; whnf; arg 1; whnf; arg 2; whnf); try exact rfl); (exact trivial); exact rfl)) | (apply cu; (apply aa; (apply af tab; exact rfl; (focus (conv => lhs; whnf); try exact rfl); exact rfl; (first | exact (rfl : _ = 1) | exact (rfl : _ = 3) | exact (rfl : _ = 4) | exact (rfl : _ = 5) | exact (rfl : _ = 6))); (intro c h; cases h); exact rfl)) | (apply iw; (apply iy (tt := tt); (focus (conv => lhs; whnf; arg 1; whnf; arg 2; whnf); try exact rfl); (exact trivial); exact rfl)) | (apply gq; (apply dz tab; exact rfl; exact rfl; exact rfl; exact rfl; exact rfl; exact rfl; exact rfl; exact rfl)) | (apply je; (apply ik tab; exact rfl; exact rfl; (first | exact (rfl : _ = 2) | exact (rfl : _ = 3) | exact (rfl : _ = 4) | exact (rfl : _ = 5)); exact rfl)) | (apply lu; (apply kg (tt := tt); (focus (conv => lhs; whnf); try exact rfl); exact rfl; (first | exact (rfl : _ = 0) | exact (rfl : _ = 1)); exact rfl)) | (apply ak))) | (apply bq; (first | (apply bg) | (apply ah) | (apply df; exact rfl; (assumption)) | (apply dm; exact rfl; (assumption)) | (apply dn) | (apply ed) | (apply ko (k := 2); exact mixed; decide +kernel; decide +kernel))) | (apply bf) | (apply lq) | (apply om) | (apply p9; (first | (refine og (nu (tt := tt) u6 (rz _ _) rfl rfl rfl rfl rfl) ?_) | (apply p8; (apply gm; (apply aj tab; exact rfl; exact rfl; exact rfl; (focus (conv => lhs; whnf; arg 1; whnf; arg 2; whnf); try skip); (exact nlb rfl))); exact rfl; exact rfl) | (apply oz))))
    (change gu _ _ _ _ _ _ _; apply fu; (exact .inr rfl); (focus (repeat' (first | (apply mr; exact rfl; exact rfl; exact rfl; (focus (conv => lhs; whnf; arg 1; whnf; arg 2; whnf); try skip); (exact nlb rfl)) | exact iq))); exact rfl; (exact rfl); exact Nat.le_refl _; (focus (repeat' (first | exact trivial | refine ⟨?_, ?_⟩))); exact hso)
    exact ⟨rfl, rfl⟩
  rw [if_neg h6]
  have w0 := ahw v.parts (-1) (c.off, c.n) hpl (.inl (by omega))
  rw [show ql v.parts (-1) (c.off, c.n) = (aa6 v c).parts from if_pos (by omega)] at w0
  have w1 := aak x.vols i (aa6 v c) hl (.inr i1)
  rw [show vl (aa6 v c) = .agg [.int .i64 v.id, .int .i64 v.home, .int .i64 v.mate, .int .i64 v.used, .int .i64 v.phase, .sl .sh 2 ((aa6 v c).parts.map plc), .sl .sh 2 (v.places.map plc), .int .i64 v.pair, .int .i64 v.sum] from rfl] at w1
  generalize ql x.vols i (aa6 v c) = vs1 at *
  generalize (aa6 v c).parts = ps at *
  by_cases hk : k < 0
  · exact absurd ⟨h0', h1, Classical.byContradiction h2, h3, hk, by omega⟩ hg
  · have c6 : decide (k < 0) = false := decide_eq_false hk
    have c6' : decide (0 ≤ k) = true := decide_eq_true (by omega)
    obtain ⟨k0, k1⟩ := kq.resolve_left hk
    rw [if_pos k0] at hN
    rw [c6']
    have w2 := aq0 x.names k (abh c) hnl (.inr k1)
    rw [show ql x.names k (abh c) = nms from (if_neg hk).trans hN.symm] at w2
    repeat' (first | (apply bn; (first | (apply jq; (first | (apply jc; exact (rfl : _ = some _); exact (rfl : _ = PV.bool _); (assumption)) | (apply ky; exact (rfl : _ = some _); exact (rfl : _ = PV.bool _); (assumption); exact ltn rfl))) | (apply bv; (apply bu (tt := tt); (focus (conv => lhs; whnf); try exact rfl); exact rfl)) | (apply ai; (apply az (tt := tt); (focus (conv => lhs; whnf); try exact rfl); exact rfl)) | (apply ji; (first | (refine cz (tt := tt) tu (v1 _) rfl rfl rfl rfl rfl ?_) | (refine cz (tt := tt) acz (n1 _) rfl rfl rfl rfl rfl ?_) | (refine cz (tt := tt) apj (w0 _) rfl rfl rfl rfl rfl ?_) | (refine cz (tt := tt) ad4 (w1 _) rfl rfl rfl rfl rfl ?_) | (refine cz (tt := tt) ayn (w2 _) rfl rfl rfl rfl rfl ?_))) | (apply dw; (apply di true tab; (focus (conv => lhs; whnf; arg 1; whnf; arg 2; whnf); try exact rfl); (first | exact trivial | (simp only [InR]; omega)); exact rfl)) | (apply kr; (apply ku (tt := tt); exact (rfl : _ = PV.bool _); (refine .inr ⟨by assumption, ?_⟩); (focus (conv => lhs; whnf); try exact rfl); exact ltn rfl)) | (apply fq; (apply aa; (apply aj tab; exact rfl; exact rfl; exact rfl; (focus (conv => lhs; whnf; arg 1; whnf; arg 2; whnf); try skip); (first | exact trivial | exact nlb rfl)); (intro c h; cases h); exact rfl)) | (apply cu; (apply aa; (apply af tab; exact rfl; (focus (conv => lhs; whnf); try exact rfl); exact rfl; (first | exact (rfl : _ = 0) | exact (rfl : _ = 1) | exact (rfl : _ = 3) | exact (rfl : _ = 4) | exact (rfl : _ = 5) | exact (rfl : _ = 6) | exact (rfl : _ = 7))); (intro c h; cases h); exact rfl)) | (apply iw; (apply iy (tt := tt); (focus (conv => lhs; whnf; arg 1; whnf; arg 2; whnf); try exact rfl); (exact trivial); exact rfl)) | (apply gq; (apply dz tab; exact rfl; exact rfl; exact rfl; exact rfl; exact rfl; exact rfl; exact rfl; exact rfl)) | (apply pq; (apply aa; (apply gy tab; exact rfl; (focus (conv => lhs; whnf; arg 1; whnf; arg 2; whnf); try skip)); (intro c h; cases h); exact rfl)) | (apply je; (apply ik tab; exact rfl; exact rfl; (first | exact (rfl : _ = 2) | exact (rfl : _ = 3) | exact (rfl : _ = 4) | exact (rfl : _ = 5) | exact (rfl : _ = 6)); exact rfl)) | (apply lu; (apply kg (tt := tt); (focus (conv => lhs; whnf); try exact rfl); exact rfl; (first | exact (rfl : _ = 0) | exact (rfl : _ = 1)); exact rfl)) | (apply ak))) | (apply bq; (first | (apply bg) | (apply ah) | (apply df; exact rfl; (assumption)) | (apply dm; exact rfl; (first | exact rfl | assumption)) | (apply gz) | (apply dn) | (apply ed))) | (apply bf) | (apply lq) | (apply ng))
    (change gu _ _ _ _ _ _ _; apply fu; (exact .inr rfl); (focus (repeat' (first | (apply mr; exact rfl; exact rfl; exact rfl; (focus (conv => lhs; whnf; arg 1; whnf; arg 2; whnf); try skip); (exact nlb rfl)) | exact iq))); exact rfl; (exact rfl); exact Nat.le_refl _; (focus (repeat' (first | exact trivial | refine ⟨?_, ?_⟩))); exact hso)
    exact ⟨rfl, rfl⟩
end Go.Proofs.Ytbpjaiemlkcccaa.Pv
end
section
/- Indexes in the program itself: places for all shards. -/
namespace Go.Proofs.Ytbpjaiemlkcccaa.Pv
open Go
set_option maxRecDepth 100000
theorem apt (l : List (Int × Int)) (r : Int) (i : Nat) (hi : i < l.length) : wholeAt l r i = ((l.getD i default).1 == r && !decide (l.getD i default ∈ l.take i)) := by
  unfold wholeAt
  congr 1
  by_cases h : l.getD i default ∈ l.take i
  · rw [decide_eq_true h]
    obtain ⟨j, hj, e⟩ := List.getElem_of_mem h
    rw [List.length_take] at hj
    rw [List.getElem_take] at e
    cases hb : (List.range i).all fun k => !decide (l.getD k default = l.getD i default) with
    | false => rfl
    | true =>
      have := List.all_eq_true.1 hb j (List.mem_range.2 (by omega))
      rw [show l.getD j default = l[j] by rw [List.getD_eq_getElem?_getD, List.getElem?_eq_getElem (by omega)]; rfl, e, decide_eq_true rfl] at this
      cases this
  · rw [decide_eq_false h]
    exact List.all_eq_true.2 fun j hj => by
      have hj := List.mem_range.1 hj
      have hne : l.getD j default ≠ l.getD i default := fun e => h (by
        rw [← e, show l.getD j default = (l.take i)[j]'(by rw [List.length_take]; omega) by rw [List.getElem_take, List.getD_eq_getElem?_getD, List.getElem?_eq_getElem (by omega)]; rfl]
        exact List.getElem_mem _)
      rw [decide_eq_false hne]; rfl
theorem aj5 (l : List (Int × Int)) (r : Int) (hl : l.length ≤ 1048576) (σ : Sto) : jo Try.prog 94 [.sl .sh 2 (l.map plc), .int .i64 r] σ fun x σ' => x = .bool (zw l r) ∧ σ' = σ := by
  refine ny tab Try.func94 rfl (nlb rfl) (by decide) fun hso => oh ?_
  repeat' (first | (apply bn; (first | (apply bv; (apply bu (tt := tt); (focus (conv => lhs; whnf); try exact rfl); exact rfl)) | (apply ai; (apply az (tt := tt); (focus (conv => lhs; whnf); try exact rfl); exact rfl)) | (apply jr; (apply ni tab; (focus (conv => lhs; whnf; arg 1; whnf; arg 2; whnf); try exact rfl); (exact trivial); exact rfl)) | (apply ak))) | (apply bq; (first | (apply bg) | (apply ah) | (apply ed))) | (apply bf))
  refine acn (fun i : Nat => [(0, .sl .sh 2 (l.map plc)), (1, .int .i64 r), (7, .sl .sh 2 (l.map plc)), (8, .int .i64 l.length), (9, .int .i64 i)]) (fun _ => σ ++ []) (fun i => i ≤ l.length ∧ ∀ j, j < i → wholeAt l r j = true) (fun i => l.length - i) 0 ⟨Nat.zero_le _, fun j hj => by omega⟩ ?_ ?_ ?_
  · rw [List.length_map] at *; (repeat' (first | exact trivial | exact Wk.same _ | refine ⟨?_, ?_⟩))
  · rfl
  rintro i ⟨hi, hno⟩
  by_cases hil : i < l.length
  · have d1 : decide ((i : Int) < (l.length : Int)) = true := decide_eq_true (by omega)
    have hcI := ac0 (l.take i) (l.getD i default) (by rw [List.length_take]; omega)
    have hw := apt l r i hil
    generalize hC : decide (l.getD i default ∈ l.take i) = C at *
    by_cases hr : (l.getD i default).1 = r
    · have e1 : ((l.getD i default).1 != r) = false := by simpa using hr
      have e1' : ((l.getD i default).1 == r) = true := by simpa using hr
      rw [e1', Bool.true_and] at hw
      cases C with
      | true =>
        repeat' (first | (apply bn; (first | (apply jq; (apply jc; exact (rfl : _ = some _); exact (rfl : _ = PV.bool _); (assumption))) | (apply bv; (apply bu (tt := tt); (focus (conv => lhs; whnf); try exact rfl); exact rfl)) | (apply ai; (apply az (tt := tt); (focus (conv => lhs; whnf); try exact rfl); exact rfl)) | (apply ji; (refine cz (tt := tt) alj (hcI _) rfl rfl rfl rfl rfl ?_)) | (apply dw; (apply di true tab; (focus (conv => lhs; whnf; arg 1; whnf; arg 2; whnf); try exact rfl); (exact trivial); exact rfl)) | (apply kr; (apply ku (tt := tt); exact (rfl : _ = PV.bool _); (refine .inr ⟨by assumption, ?_⟩); (focus (conv => lhs; whnf); try exact rfl); exact ltn rfl)) | (apply fq; (apply ou tab; (focus (conv => lhs; whnf; arg 1; whnf; arg 2; whnf); try skip); (exact nlb rfl); exact rfl)) | (apply j5; (refine lw (tI := 3) _ tab rfl (by (focus (conv => lhs; whnf); try exact rfl)) (by (focus (conv => lhs; whnf); try exact rfl)) rfl (by (omega)) (by (omega)) (by (focus (conv => lhs; whnf); try exact rfl)) (ltn rfl) ?_)) | (apply gq; (apply dz tab; exact rfl; exact rfl; exact rfl; exact rfl; exact rfl; exact rfl; exact rfl; exact rfl)) | (apply je; (apply ik tab; exact rfl; exact rfl; (exact (rfl : _ = 0)); exact rfl)) | (apply ak))) | (apply bq; (first | (apply bg) | (apply ah) | (apply df; exact rfl; (first | exact rfl | assumption)) | (apply gz) | (apply dn) | (apply ed) | (apply ko (k := 9); exact mixed; decide +kernel; decide +kernel))) | (apply bf) | (apply lq) | (apply om) | (apply p9; (first | (apply p8; (first | (apply jg; (apply jf (tt := tt); (focus (conv => lhs; whnf); try exact rfl))) | (apply kv; (apply ek true tab; (focus (conv => lhs; whnf; arg 1; whnf; arg 2; whnf); try exact rfl); (exact trivial))) | (apply dh; (apply af tab; exact rfl; (focus (conv => lhs; whnf); try exact rfl); exact rfl; (exact (rfl : _ = 0)))) | (apply gm; (apply aj tab; exact rfl; exact rfl; exact rfl; (focus (conv => lhs; whnf; arg 1; whnf; arg 2; whnf); try skip); (exact trivial)))); exact rfl; exact rfl) | (apply zu; exact (rfl : _ = some _); exact (rfl : _ = PV.bool _); (assumption); exact rfl) | (apply yc; exact (rfl : _ = some _); exact (rfl : _ = PV.bool _); (assumption); (first | (apply jg; (apply jf (tt := tt); (focus (conv => lhs; whnf); try exact rfl))) | (apply gm; (apply aj tab; exact rfl; exact rfl; exact rfl; (focus (conv => lhs; whnf; arg 1; whnf; arg 2; whnf); try skip); (exact nlb rfl))) | (apply jw; (apply eu _ tab; exact rfl; (focus (conv => lhs; whnf); try exact rfl); exact rfl; (focus (conv => lhs; whnf); try exact rfl); (omega)))); exact rfl; exact rfl) | (apply zf; exact (rfl : _ = some _); exact (rfl : _ = PV.bool _); all_goals intro hb) | (apply oz))))
        (change gu _ _ _ _ _ _ _; apply fu; (exact .inr rfl); (focus (repeat' (first | (apply lc; (focus (conv => lhs; whnf); try exact rfl); (exact Wk.same _)) | exact iq))); exact rfl; (exact rfl); exact Nat.le_refl _; (focus (repeat' (first | exact trivial | refine ⟨?_, ?_⟩))); exact hso)
        exact ⟨by rw [akz hil hw]; rfl, rfl⟩
      | false =>
        repeat' (first | (apply bn; (first | (apply jq; (apply jc; exact (rfl : _ = some _); exact (rfl : _ = PV.bool _); (assumption))) | (apply bv; (apply bu (tt := tt); (focus (conv => lhs; whnf); try exact rfl); exact rfl)) | (apply ai; (apply az (tt := tt); (focus (conv => lhs; whnf); try exact rfl); exact rfl)) | (apply ji; (refine cz (tt := tt) alj (hcI _) rfl rfl rfl rfl rfl ?_)) | (apply dw; (apply di true tab; (focus (conv => lhs; whnf; arg 1; whnf; arg 2; whnf); try exact rfl); (first | exact trivial | (simp only [InR]; omega)); exact rfl)) | (apply kr; (apply ku (tt := tt); exact (rfl : _ = PV.bool _); (refine .inr ⟨by assumption, ?_⟩); (focus (conv => lhs; whnf); try exact rfl); exact ltn rfl)) | (apply fq; (apply ou tab; (focus (conv => lhs; whnf; arg 1; whnf; arg 2; whnf); try skip); (exact nlb rfl); exact rfl)) | (apply j5; (refine lw (tI := 3) _ tab rfl (by (focus (conv => lhs; whnf); try exact rfl)) (by (focus (conv => lhs; whnf); try exact rfl)) rfl (by (omega)) (by (omega)) (by (focus (conv => lhs; whnf); try exact rfl)) (ltn rfl) ?_)) | (apply gq; (apply dz tab; exact rfl; exact rfl; exact rfl; exact rfl; exact rfl; exact rfl; exact rfl; exact rfl)) | (apply je; (apply ik tab; exact rfl; exact rfl; (exact (rfl : _ = 0)); exact rfl)) | (apply ak))) | (apply bq; (first | (apply bg) | (apply ah) | (apply df; exact rfl; (assumption)) | (apply dm; exact rfl; (exact rfl)) | (apply gz) | (apply ed) | (apply ko (k := 9); exact mixed; decide +kernel; decide +kernel))) | (apply bf) | (apply ng) | (apply p9; (first | (apply p8; (first | (apply jg; (apply jf (tt := tt); (focus (conv => lhs; whnf); try exact rfl))) | (apply kv; (apply ek true tab; (focus (conv => lhs; whnf; arg 1; whnf; arg 2; whnf); try exact rfl); (exact trivial))) | (apply dh; (apply af tab; exact rfl; (focus (conv => lhs; whnf); try exact rfl); exact rfl; (exact (rfl : _ = 0)))) | (apply gm; (apply aj tab; exact rfl; exact rfl; exact rfl; (focus (conv => lhs; whnf; arg 1; whnf; arg 2; whnf); try skip); (exact trivial)))); exact rfl; exact rfl) | (apply yc; exact (rfl : _ = some _); exact (rfl : _ = PV.bool _); (assumption); (first | (apply jg; (apply jf (tt := tt); (focus (conv => lhs; whnf); try exact rfl))) | (apply gm; (apply aj tab; exact rfl; exact rfl; exact rfl; (focus (conv => lhs; whnf; arg 1; whnf; arg 2; whnf); try skip); (exact nlb rfl))) | (apply jw; (apply eu _ tab; exact rfl; (focus (conv => lhs; whnf); try exact rfl); exact rfl; (focus (conv => lhs; whnf); try exact rfl); (omega)))); exact rfl; exact rfl) | (apply oz))))
        refine ⟨i + 1, ⟨by omega, fun j hj => ?_⟩, by omega, ?_, ?_⟩
        · by_cases e' : j = i
          · subst e'; exact hw
          · exact hno j (by omega)
        · (repeat' (first | exact trivial | exact Wk.same _ | refine ⟨?_, ?_⟩))
        · exact uo 0 rfl (by simp) (um hso (by simp [Ent.lt, o6, PV.lt, PV.cells])) (vw (by simp [PV.lt]))
    · have e1 : ((l.getD i default).1 != r) = true := by simpa using hr
      have e1' : ((l.getD i default).1 == r) = false := by simpa using hr
      rw [e1', Bool.false_and] at hw
      repeat' (first | (apply bn; (first | (apply jq; (apply ky; exact (rfl : _ = some _); exact (rfl : _ = PV.bool _); (assumption); exact ltn rfl)) | (apply bv; (apply bu (tt := tt); (focus (conv => lhs; whnf); try exact rfl); exact rfl)) | (apply ai; (apply az (tt := tt); (focus (conv => lhs; whnf); try exact rfl); exact rfl)) | (apply dw; (apply di true tab; (focus (conv => lhs; whnf; arg 1; whnf; arg 2; whnf); try exact rfl); (exact trivial); exact rfl)) | (apply kr; (apply ku (tt := tt); exact (rfl : _ = PV.bool _); (refine .inl ⟨by assumption, ?_⟩); (focus (conv => lhs; whnf); try exact rfl); exact ltn rfl)) | (apply fq; (apply ou tab; (focus (conv => lhs; whnf; arg 1; whnf; arg 2; whnf); try skip); (exact nlb rfl); exact rfl)) | (apply j5; (refine lw (tI := 3) _ tab rfl (by (focus (conv => lhs; whnf); try exact rfl)) (by (focus (conv => lhs; whnf); try exact rfl)) rfl (by (omega)) (by (omega)) (by (focus (conv => lhs; whnf); try exact rfl)) (ltn rfl) ?_)) | (apply gq; (apply dz tab; exact rfl; exact rfl; exact rfl; exact rfl; exact rfl; exact rfl; exact rfl; exact rfl)) | (apply je; (apply ik tab; exact rfl; exact rfl; (exact (rfl : _ = 0)); exact rfl)) | (apply ak))) | (apply bq; (first | (apply bg) | (apply ah) | (apply df; exact rfl; (first | exact rfl | assumption)) | (apply gz) | (apply dn) | (apply ed) | (apply ko (k := 9); exact mixed; decide +kernel; decide +kernel))) | (apply bf) | (apply lq) | (apply om) | (apply p9; (first | (apply p8; (first | (apply jg; (apply jf (tt := tt); (focus (conv => lhs; whnf); try exact rfl))) | (apply kv; (apply ek true tab; (focus (conv => lhs; whnf; arg 1; whnf; arg 2; whnf); try exact rfl); (exact trivial))) | (apply dh; (apply af tab; exact rfl; (focus (conv => lhs; whnf); try exact rfl); exact rfl; (exact (rfl : _ = 0)))) | (apply gm; (apply aj tab; exact rfl; exact rfl; exact rfl; (focus (conv => lhs; whnf; arg 1; whnf; arg 2; whnf); try skip); (exact trivial)))); exact rfl; exact rfl) | (apply zu; exact (rfl : _ = some _); exact (rfl : _ = PV.bool _); (assumption); exact rfl) | (apply oz))))
      (change gu _ _ _ _ _ _ _; apply fu; (exact .inr rfl); (focus (repeat' (first | (apply lc; (focus (conv => lhs; whnf); try exact rfl); (exact Wk.same _)) | exact iq))); exact rfl; (exact rfl); exact Nat.le_refl _; (focus (repeat' (first | exact trivial | refine ⟨?_, ?_⟩))); exact hso)
      exact ⟨by rw [akz hil hw]; rfl, rfl⟩
  · have d1 : decide ((i : Int) < (l.length : Int)) = false := decide_eq_false (by omega)
    by_cases h14 : l.length = 14
    · have c1m : (((l.map plc).length : Int) == 14) = true := by rw [List.length_map, h14]; rfl
      rw [ap9 h14 fun j hj => hno j (by omega)]
      repeat' (first | (apply bn; (first | (apply bv; (apply bu (tt := tt); (focus (conv => lhs; whnf); try exact rfl); exact rfl)) | (apply ai; (apply az (tt := tt); (focus (conv => lhs; whnf); try exact rfl); exact rfl)) | (apply dw; (apply di true tab; (focus (conv => lhs; whnf; arg 1; whnf; arg 2; whnf); try exact rfl); (exact trivial); exact rfl)) | (apply jr; (apply ni tab; (focus (conv => lhs; whnf; arg 1; whnf; arg 2; whnf); try exact rfl); (exact trivial); exact rfl)) | (apply ak))) | (apply bq; (first | (apply bg) | (apply ah) | (apply dm; exact rfl; (assumption)) | (apply dn) | (apply oo))) | (apply bf) | (apply o9) | (apply pg))
      (change gu _ _ _ _ _ _ _; apply fu; (exact .inr rfl); (focus (repeat' (first | (apply lc; (focus (conv => lhs; whnf); try exact rfl); (exact Wk.same _)) | exact iq))); exact rfl; (exact rfl); exact Nat.le_refl _; (focus (repeat' (first | exact trivial | refine ⟨?_, ?_⟩))); exact hso)
      exact ⟨by rw [c1m]; rfl, rfl⟩
    · have c1m : (((l.map plc).length : Int) == 14) = false := by rw [List.length_map, beq_eq_false_iff_ne]; omega
      have e : zw l r = false := by unfold zw; rw [decide_eq_false h14]; rfl
      rw [e]
      repeat' (first | (apply bn; (first | (apply bv; (apply bu (tt := tt); (focus (conv => lhs; whnf); try exact rfl); exact rfl)) | (apply ai; (apply az (tt := tt); (focus (conv => lhs; whnf); try exact rfl); exact rfl)) | (apply dw; (apply di true tab; (focus (conv => lhs; whnf; arg 1; whnf; arg 2; whnf); try exact rfl); (exact trivial); exact rfl)) | (apply jr; (apply ni tab; (focus (conv => lhs; whnf; arg 1; whnf; arg 2; whnf); try exact rfl); (exact trivial); exact rfl)) | (apply ak))) | (apply bq; (first | (apply bg) | (apply ah) | (apply dm; exact rfl; (assumption)) | (apply dn) | (apply oo))) | (apply bf) | (apply o9) | (apply pg))
      (change gu _ _ _ _ _ _ _; apply fu; (exact .inr rfl); (focus (repeat' (first | (apply lc; (focus (conv => lhs; whnf); try exact rfl); (exact Wk.same _)) | exact iq))); exact rfl; (exact rfl); exact Nat.le_refl _; (focus (repeat' (first | exact trivial | refine ⟨?_, ?_⟩))); exact hso)
      exact ⟨by rw [c1m]; rfl, rfl⟩
end Go.Proofs.Ytbpjaiemlkcccaa.Pv
end
