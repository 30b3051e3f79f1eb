
/- Rows of facts compared; TraceGrows. -/
import Derived.Test.YtbpjaiemlkcccaaLibK11
import Derived.Test.YtbpjaiemlkcccaaLibTrcOnce
namespace Go.Proofs.Ytbpjaiemlkcccaa.Pv
open Go
set_option linter.unusedVariables false
set_option linter.unusedSimpArgs false
set_option maxRecDepth 100000

theorem ao6 (a b : ByteArray) : (a == b) = decide (a = b) := by
  obtain ⟨x⟩ := a
  obtain ⟨y⟩ := b
  rw [Bool.eq_iff_iff, decide_eq_true_eq, ByteArray.mk.injEq]
  exact beq_iff_eq (a := x) (b := y)
theorem aoy {α : Type} [Inhabited α] {xs ys : List α} {i : Nat} (h : xs.take i = ys.take i) (hx : i < xs.length) (hy : i < ys.length) (he : xs.getD i default = ys.getD i default) : xs.take (i + 1) = ys.take (i + 1) := by
  rw [List.take_succ_eq_append_getElem hx, List.take_succ_eq_append_getElem hy, h]
  simp only [List.getD, List.getElem?_eq_getElem hx, List.getElem?_eq_getElem hy, Option.getD_some] at he
  rw [he]
theorem avy (a b : Ft) : (a.at_ == b.at_ && (a.client == b.client && (a.seq == b.seq && (a.kind == b.kind && (a.name == b.name && ((a.r.err == b.r.err && (a.r.vol == b.r.vol && (a.r.off == b.r.off && (a.r.n == b.r.n && (a.r.sum == b.r.sum && (a.r.found == b.r.found && true)))))) && true)))))) = decide (a = b) := by
  rw [Bool.eq_iff_iff]
  obtain ⟨a1, a2, a3, a4, a5, a6, a7, a8, a9, a10, a11⟩ := a
  obtain ⟨b1, b2, b3, b4, b5, b6, b7, b8, b9, b10, b11⟩ := b
  simp only [Bool.and_eq_true, beq_iff_eq, decide_eq_true_eq, ao6, and_true, Ft.mk.injEq, Rp.mk.injEq]

set_option maxHeartbeats 2000000 in
theorem apb (xs ys : List Ft) (hx : xs.length ≤ 1048576) (σ : Sto) : jo Try.prog 11 [.sl .sh 11 (xs.map ft), .sl .sh 11 (ys.map ft)] σ fun x σ' => x = .bool (decide (xs = ys)) ∧ σ' = σ := by
  refine ny tab Try.func11 rfl (nlb rfl) (by decide) fun hso => ?_
  by_cases hl : xs.length = ys.length
  · have hc : (((xs.map ft).length : Int) != ((ys.map ft).length : Int)) = false := by simp [hl]
    repeat' (first | (apply bn; (first | (apply bv; (apply bu (tt := tt); (focus (conv => lhs; whnf); try exact rfl); exact rfl)) | (apply ai; (apply az (tt := tt); (focus (conv => lhs; whnf); try exact rfl); exact rfl)) | (apply dw; (apply di true tab; (focus (conv => lhs; whnf; arg 1; whnf; arg 2; whnf); try exact rfl); (exact trivial); exact rfl)) | (apply jr; (apply ni tab; (focus (conv => lhs; whnf; arg 1; whnf; arg 2; whnf); try exact rfl); (exact trivial); exact rfl)) | (apply ak))) | (apply bq; (first | (apply bg) | (apply ah) | (apply dm; exact rfl; (assumption)) | (apply gz) | (apply ed))) | (apply bf))
    refine ve (fun i : Nat => [(0, .sl .sh 11 (xs.map ft)), (1, .sl .sh 11 (ys.map ft)), (5, .int .i64 i)]) (fun _ => σ) (fun i => i ≤ xs.length ∧ xs.take i = ys.take i) (fun i => xs.length - i) 0 ⟨Nat.zero_le _, rfl⟩ ?_ rfl ?_
    · (repeat' (first | exact trivial | exact Wk.same _ | refine ⟨?_, ?_⟩))
    rintro i ⟨hi, ht⟩
    by_cases hil : i < xs.length
    · have c1 : decide ((i : Int) < (xs.length : Int)) = true := decide_eq_true (by omega)
      have c1m : decide ((i : Int) < ((xs.map ft).length : Int)) = true := by rw [List.length_map]; exact c1
      have hE := avy (xs.getD ((i : Nat) : Int).toNat default) (ys.getD ((i : Nat) : Int).toNat default)
      rw [Int.toNat_natCast] at hE
      by_cases he : xs.getD i default = ys.getD i default
      · rw [decide_eq_true he] at hE
        repeat' (first | (apply bn; (first | (apply bv; (apply bu (tt := tt); (focus (conv => lhs; whnf); try exact rfl); exact rfl)) | (apply ai; (apply az (tt := tt); (focus (conv => lhs; whnf); try exact rfl); exact rfl)) | (apply dw; (first | (apply di true tab; (focus (conv => lhs; whnf; arg 1; whnf; arg 2; whnf); try exact rfl); (first | exact trivial | (simp only [InR]; omega)); exact rfl) | (apply aa; (apply lh tab jk; exact rfl; exact rfl; (focus (conv => lhs; whnf); try exact rfl); (focus (conv => lhs; whnf); try exact rfl); exact rfl; exact rfl); (intro c h; cases h); exact rfl))) | (apply jr; (apply ni tab; (focus (conv => lhs; whnf; arg 1; whnf; arg 2; whnf); try exact rfl); (exact trivial); exact rfl)) | (apply ak))) | (apply bq; (first | (apply bg) | (apply ah) | (apply df; exact rfl; (assumption)) | (apply qo; exact (rfl : _ = PV.bool _); all_goals intro hb) | (apply gz) | (apply dn) | (apply ed) | (apply ko (k := 8); exact mixed; decide +kernel; decide +kernel))) | (apply bf) | (apply lq) | (apply ng) | (apply om) | (apply p9; (first | (apply p8; (first | (apply au; exact fw (tI := 3) _ tab rfl (by (focus (conv => lhs; whnf); try exact rfl)) (by (focus (conv => lhs; whnf); try exact rfl)) rfl (by (omega)) (by (omega)) (by (focus (conv => lhs; whnf); try exact rfl))) | (apply jg; (apply jf (tt := tt); (focus (conv => lhs; whnf); try exact rfl))) | (apply gm; (apply j6 tab; (focus (conv => lhs; whnf; arg 1; whnf; arg 2; whnf); try skip); (exact nlb rfl)))); exact rfl; exact rfl) | (apply oz))))
        all_goals first
          | (exfalso; simp only [Int.toNat_natCast] at hb; rw [hE] at hb; cases hb; done)
          | (refine ⟨i + 1, ⟨by omega, aoy ht hil (by omega) he⟩, by omega, ?_, rfl⟩
             (repeat' (first | exact trivial | exact Wk.same _ | refine ⟨?_, ?_⟩)))
      · rw [decide_eq_false he] at hE
        repeat' (first | (apply bn; (first | (apply bv; (apply bu (tt := tt); (focus (conv => lhs; whnf); try exact rfl); exact rfl)) | (apply ai; (apply az (tt := tt); (focus (conv => lhs; whnf); try exact rfl); exact rfl)) | (apply dw; (first | (apply di true tab; (focus (conv => lhs; whnf; arg 1; whnf; arg 2; whnf); try exact rfl); (first | exact trivial | (simp only [InR]; omega)); exact rfl) | (apply aa; (apply lh tab jk; exact rfl; exact rfl; (focus (conv => lhs; whnf); try exact rfl); (focus (conv => lhs; whnf); try exact rfl); exact rfl; exact rfl); (intro c h; cases h); exact rfl))) | (apply jr; (apply ni tab; (focus (conv => lhs; whnf; arg 1; whnf; arg 2; whnf); try exact rfl); (exact trivial); exact rfl)) | (apply ak))) | (apply bq; (first | (apply bg) | (apply ah) | (apply df; exact rfl; (assumption)) | (apply qo; exact (rfl : _ = PV.bool _); all_goals intro hb) | (apply gz) | (apply dn) | (apply ed) | (apply ko (k := 8); exact mixed; decide +kernel; decide +kernel))) | (apply bf) | (apply lq) | (apply ng) | (apply om) | (apply p9; (first | (apply p8; (first | (apply au; exact fw (tI := 3) _ tab rfl (by (focus (conv => lhs; whnf); try exact rfl)) (by (focus (conv => lhs; whnf); try exact rfl)) rfl (by (omega)) (by (omega)) (by (focus (conv => lhs; whnf); try exact rfl))) | (apply jg; (apply jf (tt := tt); (focus (conv => lhs; whnf); try exact rfl))) | (apply gm; (apply j6 tab; (focus (conv => lhs; whnf; arg 1; whnf; arg 2; whnf); try skip); (exact nlb rfl)))); exact rfl; exact rfl) | (apply oz))))
        all_goals first
          | (exfalso; simp only [Int.toNat_natCast] at hb; rw [hE] at hb; cases hb; done)
          | ((change gu _ _ _ _ _ _ _; apply fu; (exact .inr rfl); (focus (repeat' (first | (apply lc; (focus (conv => lhs; whnf); try exact rfl); (exact Wk.same _)) | exact iq))); exact rfl; (exact (List.append_nil _).symm); exact Nat.le_refl _; (focus (repeat' (first | exact trivial | refine ⟨?_, ?_⟩))); exact hso)
             exact ⟨by rw [decide_eq_false (fun e => he (by rw [e]))]; rfl, rfl⟩)
    · have c1 : decide ((i : Int) < (xs.length : Int)) = false := decide_eq_false (by omega)
      have c1m : decide ((i : Int) < ((xs.map ft).length : Int)) = false := by rw [List.length_map]; exact c1
      repeat' (first | (apply bn; (first | (apply bv; (apply bu (tt := tt); (focus (conv => lhs; whnf); try exact rfl); exact rfl)) | (apply ai; (apply az (tt := tt); (focus (conv => lhs; whnf); try exact rfl); exact rfl)) | (apply dw; (apply di true tab; (focus (conv => lhs; whnf; arg 1; whnf; arg 2; whnf); try exact rfl); (exact trivial); exact rfl)) | (apply jr; (apply ni tab; (focus (conv => lhs; whnf; arg 1; whnf; arg 2; whnf); try exact rfl); (exact trivial); exact rfl)) | (apply ak))) | (apply bq; (first | (apply bg) | (apply ah) | (apply dm; exact rfl; (assumption)) | (apply dn) | (apply oo))) | (apply bf) | (apply o9) | (apply pg))
      (change gu _ _ _ _ _ _ _; apply fu; (exact .inr rfl); (focus (repeat' (first | (apply lc; (focus (conv => lhs; whnf); try exact rfl); (exact Wk.same _)) | exact iq))); exact rfl; (exact (List.append_nil _).symm); exact Nat.le_refl _; (focus (repeat' (first | exact trivial | refine ⟨?_, ?_⟩))); exact hso)
      have hi' : i = xs.length := by omega
      subst hi'
      rw [List.take_length, hl, List.take_length] at ht
      exact ⟨by rw [decide_eq_true ht]; rfl, rfl⟩
  · have hc : (((xs.map ft).length : Int) != ((ys.map ft).length : Int)) = true := by simp; omega
    repeat' (first | (apply bn; (first | (apply bv; (apply bu (tt := tt); (focus (conv => lhs; whnf); try exact rfl); exact rfl)) | (apply ai; (apply az (tt := tt); (focus (conv => lhs; whnf); try exact rfl); exact rfl)) | (apply dw; (apply di true tab; (focus (conv => lhs; whnf; arg 1; whnf; arg 2; whnf); try exact rfl); (exact trivial); exact rfl)) | (apply jr; (apply ni tab; (focus (conv => lhs; whnf; arg 1; whnf; arg 2; whnf); try exact rfl); (exact trivial); exact rfl)) | (apply ak))) | (apply bq; (first | (apply bg) | (apply ah) | (apply df; exact rfl; (assumption)) | (apply dn))) | (apply bf) | (apply lq))
    (change gu _ _ _ _ _ _ _; apply fu; (exact .inr rfl); (focus (repeat' (first | (apply lc; (focus (conv => lhs; whnf); try exact rfl); (exact Wk.same _)) | exact iq))); exact rfl; (exact (List.append_nil _).symm); exact Nat.le_refl _; (focus (repeat' (first | exact trivial | refine ⟨?_, ?_⟩))); exact hso)
    exact ⟨by rw [decide_eq_false (fun e => hl (by rw [e]))]; rfl, rfl⟩

set_option maxHeartbeats 4000000 in
theorem aq5 (l m : List ByteArray) (hw : ww (l.map .str) + ww (m.map .str) ≤ 1048576) (σ : Sto) : jo Try.prog 4 [.sl .sh 1 (l.map .str), .sl .sh 1 (m.map .str)] σ fun r σ' => r = .bool true ∧ σ' = σ := by
  have hll : l.length ≤ 1048576 := by have := acm (l.map PV.str); rw [List.length_map] at this; omega
  have hml : m.length ≤ 1048576 := by have := acm (m.map PV.str); rw [List.length_map] at this; omega
  have hlm : l.length + m.length ≤ 1048576 := by have h1 := acm (m.map PV.str); have h2 := acm (l.map PV.str); rw [List.length_map] at h1 h2; omega
  have hr := aey l (by omega)
  have hr2 := aey (l ++ m) (by rw [List.map_append, ad2]; exact hw)
  rw [List.map_append] at hr2
  obtain ⟨G, hG, hat⟩ := aqw l m
  have hF2 : (aaj (l ++ m)).2.length ≤ (l ++ m).length := af0 _ _
  rw [List.length_append] at hF2
  rw [hG] at hr2 hF2
  generalize (aaj (l ++ m)).1 = Y at *
  generalize aaj l = q at *
  obtain ⟨X, F⟩ := q
  dsimp only at *
  rw [List.length_append] at hF2
  have c0 : decide ((((F ++ G).map ft).length : Int) < ((F.map ft).length : Int)) = false := decide_eq_false (by simp only [List.length_map, List.length_append]; omega)
  have hS := apb F ((F ++ G).take ((((F.map ft).length : Nat) : Int)).toNat) (by omega)
  rw [decide_eq_true (by rw [Int.toNat_natCast, List.length_map, List.take_left])] at hS
  refine ny tab Try.func4 rfl (nlb rfl) (by decide) fun hso => oh ?_
  repeat' (first | (apply bn; (first | (apply bv; (first | (apply qh (d := 22) (.inr rfl); (focus (conv => lhs; whnf); try exact rfl); exact rfl; exact ltn rfl) | (apply bu (tt := tt); (focus (conv => lhs; whnf); try exact rfl); exact rfl))) | (apply ai; (first | (apply qh (.inl rfl); (focus (conv => lhs; whnf); try exact rfl); exact rfl; exact ltn rfl) | (apply az (tt := tt); (focus (conv => lhs; whnf); try exact rfl); exact rfl))) | (apply ji; (first | (refine cz (tt := tt) ao1 (ael _) rfl rfl rfl rfl rfl ?_) | (refine cz (tt := tt) alk (hr _) rfl rfl rfl rfl rfl ?_) | (refine cz (tt := tt) alk (hr2 _) rfl rfl rfl rfl rfl ?_) | (refine cz (tt := tt) ax9 (hS _) rfl rfl rfl rfl rfl ?_))) | (apply dw; (apply di true tab; (focus (conv => lhs; whnf; arg 1; whnf; arg 2; whnf); try exact rfl); (exact trivial); exact rfl)) | (apply jr; (first | (apply qf tab; (focus (conv => lhs; whnf); try exact rfl); exact rfl; exact rfl; exact rfl; exact rfl; exact rfl; (focus (conv => lhs; whnf); try exact rfl); exact rfl; (simp only [List.length_map, List.length_append, List.length_cons, List.length_nil, List.length_take]; omega); (exact qw _ (fun _ => rfl) _); exact rfl) | (apply ni tab; (focus (conv => lhs; whnf; arg 1; whnf; arg 2; whnf); try exact rfl); (exact trivial); exact rfl))) | (apply iw; (apply iy (tt := tt); (focus (conv => lhs; whnf; arg 1; whnf; arg 2; whnf); try exact rfl); (exact trivial); exact rfl)) | (apply gq; (apply dz tab; exact rfl; exact rfl; exact rfl; exact rfl; exact rfl; exact rfl; exact rfl; exact rfl)) | (apply mi; (apply mq .ow tab; exact rfl; (focus ((repeat (apply mh; (focus (conv => lhs; whnf); try exact rfl))); exact nk)); exact rfl; exact rfl; exact rfl; exact rfl; exact rfl; exact rfl)) | (apply sj; (apply aa; (apply eu _ tab; exact rfl; (focus (conv => lhs; whnf); try exact rfl); exact rfl; (focus (conv => lhs; whnf); try exact rfl); (simp only [List.length_map, List.length_cons, List.length_append, List.length_nil]; omega)); (intro c h; cases h); exact rfl)) | (apply je; (apply ik tab; exact rfl; exact rfl; (first | exact (rfl : _ = 0) | exact (rfl : _ = 1)); exact rfl)) | (apply ak))) | (apply bq; (first | (apply bg) | (apply ah) | (apply dm; exact rfl; (assumption)) | (apply gz) | (apply ed))) | (apply bf))
  clear hr hr2 hS
  refine ve (fun i : Nat => [(0, .sl .sh 1 (l.map .str)), (5, .bool true), (10, .sl .sh 11 ((F ++ G).map ft)), (11, .bool true), (12, .int .i64 i)]) (fun i => σ ++ [.cells (ix X).cells, .cells (ix Y).cells]) (fun i => F.length ≤ i ∧ i ≤ F.length + G.length) (fun i => F.length + G.length - i) F.length ⟨Nat.le_refl _, by omega⟩ ?_ rfl ?_
  · rw [← List.length_map (f := ft)]
    (repeat' (first | exact trivial | exact Wk.same _ | refine ⟨?_, ?_⟩))
  rintro i ⟨hi, hi2⟩
  rcases Nat.lt_or_ge i (F.length + G.length) with hlt | hge
  · have c1 : decide ((i : Int) < ((F ++ G).length : Int)) = true := decide_eq_true (by rw [List.length_append]; omega)
    have c1m : decide ((i : Int) < (((F ++ G).map ft).length : Int)) = true := by rw [List.length_map]; exact c1
    have hlen : i < (F ++ G).length := by rw [List.length_append]; omega
    have hg : (F ++ G).getD i default ∈ G := by
      have e : (F ++ G).getD i default = G.getD (i - F.length) default := by
        rw [List.getD_eq_getElem?_getD, List.getElem?_append_right hi, List.getD_eq_getElem?_getD]
      rw [e]; exact uq (by omega)
    have ha := hat _ hg
    have e1 : decide (((F ++ G).getD ((i : Nat) : Int).toNat default).at_ ≤ ((l.map PV.str).length : Int)) = false := decide_eq_false (by rw [List.length_map]; simp only [Int.toNat_natCast]; omega)
    have e1m : decide (((F ++ G).getD ((i : Nat) : Int).toNat default).at_ ≤ (l.length : Int)) = false := decide_eq_false (by simp only [Int.toNat_natCast]; omega)
    repeat' (first | (apply bn; (first | (apply bv; (apply bu (tt := tt); (focus (conv => lhs; whnf); try exact rfl); exact rfl)) | (apply ai; (apply az (tt := tt); (focus (conv => lhs; whnf); try exact rfl); exact rfl)) | (apply dw; (apply di true tab; (focus (conv => lhs; whnf; arg 1; whnf; arg 2; whnf); try exact rfl); (first | exact trivial | (simp only [InR]; omega)); exact rfl)) | (apply fq; (apply ou tab; (focus (conv => lhs; whnf; arg 1; whnf; arg 2; whnf); try skip); (exact trivial); exact rfl)) | (apply jr; (apply ni tab; (focus (conv => lhs; whnf; arg 1; whnf; arg 2; whnf); try exact rfl); (exact trivial); exact rfl)) | (apply j5; (refine lw (tI := 3) _ tab rfl (by (focus (conv => lhs; whnf); try exact rfl)) (by (focus (conv => lhs; whnf); try exact rfl)) rfl (by (omega)) (by (omega)) (by (focus (conv => lhs; whnf); try exact rfl)) (ltn rfl) ?_)) | (apply cu; (apply aa; (apply bz tab; exact rfl; (focus (conv => lhs; whnf); try exact rfl); exact rfl; exact rfl; (focus (conv => lhs; whnf); try exact rfl)); (intro c h; cases h); exact rfl)) | (apply ak))) | (apply bq; (first | (apply bg) | (apply ah) | (apply df; exact rfl; (assumption)) | (apply dm; exact rfl; (assumption)) | (apply gz) | (apply ed))) | (apply bf) | (apply ng))
    refine ⟨i + 1, ⟨by omega, by omega⟩, by omega, ?_, rfl⟩
    (repeat' (first | exact trivial | exact Wk.same _ | refine ⟨?_, ?_⟩))
  · have c1 : decide ((i : Int) < ((F ++ G).length : Int)) = false := decide_eq_false (by rw [List.length_append]; omega)
    have c1m : decide ((i : Int) < (((F ++ G).map ft).length : Int)) = false := by rw [List.length_map]; exact c1
    repeat' (first | (apply bn; (first | (apply jq; (apply jc; exact (rfl : _ = some _); exact (rfl : _ = PV.bool _); (exact rfl))) | (apply bv; (apply bu (tt := tt); (focus (conv => lhs; whnf); try exact rfl); exact rfl)) | (apply ai; (apply az (tt := tt); (focus (conv => lhs; whnf); try exact rfl); exact rfl)) | (apply dw; (apply di true tab; (focus (conv => lhs; whnf; arg 1; whnf; arg 2; whnf); try exact rfl); (exact trivial); exact rfl)) | (apply kr; (apply ku (tt := tt); exact (rfl : _ = PV.bool _); (refine .inl ⟨rfl, ?_⟩); (focus (conv => lhs; whnf); try exact rfl); exact ltn rfl)) | (apply jr; (apply ni tab; (focus (conv => lhs; whnf; arg 1; whnf; arg 2; whnf); try exact rfl); (exact trivial); exact rfl)) | (apply ak))) | (apply bq; (first | (apply bg) | (apply ah) | (apply dm; exact rfl; (assumption)) | (apply dn) | (apply oo))) | (apply bf) | (apply o9) | (apply pg))
    (change gu _ _ _ _ _ _ _; apply fu; (exact .inr rfl); (focus (repeat' (first | (apply lc; (focus (conv => lhs; whnf); try exact rfl); (exact Wk.same _)) | exact iq))); exact rfl; (exact rfl); exact Nat.le_refl _; (focus (repeat' (first | exact trivial | refine ⟨?_, ?_⟩))); exact hso)
    exact ⟨rfl, rfl⟩

end Go.Proofs.Ytbpjaiemlkcccaa.Pv
