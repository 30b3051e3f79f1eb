import Derived.Test.YtbpjaiemlkcccaaLibImpA
import Derived.Test.YtbpjaiemlkcccaaLibK1
import Derived.Test.YtbpjaiemlkcccaaPvZt
set_option linter.unusedVariables false
set_option linter.unusedSimpArgs false
section
/- Indexes in the program itself: a name dropped. -/
namespace Go.Proofs.Ytbpjaiemlkcccaa.Pv
open Go
set_option maxRecDepth 100000
theorem asz {α : Type} {f : α → PV} {sz : Nat} (hf : ∀ x, (f x).cells.length = sz) {xs : List α} {i : Nat} {r : List PV} (hi : i < xs.length) :
    putAt (flat (xs.map f) ++ r) (i * sz) (flat ((xs.drop (i + 1)).map f)) = flat ((xs.take i ++ xs.drop (i + 1)).map f) ++ ((flat ((xs.drop i).map f)).drop ((xs.length - (i + 1)) * sz) ++ r) := by
  have hn : (xs.length - (i + 1)) * sz ≤ (xs.length - i) * sz := Nat.mul_le_mul_right _ (by omega)
  rw [adg (A := flat ((xs.take i).map f)) (B := (flat ((xs.drop i).map f)).take ((xs.length - (i + 1)) * sz)) (C := (flat ((xs.drop i).map f)).drop ((xs.length - (i + 1)) * sz) ++ r)
    (by rw [ano (f := f) xs i, List.append_assoc, List.append_assoc, ← List.append_assoc (List.take _ _), List.take_append_drop])
    (by rw [xq hf, List.length_take, Nat.min_eq_left (by omega)])
    (by rw [xq hf, List.length_take, xq hf, List.length_drop, List.length_drop, Nat.min_eq_left hn])]
  rw [ahj]
theorem att {α : Type} {f : α → PV} {sz : Nat} (hf : ∀ x, (f x).cells.length = sz) {ys : List α} {o : Nat} {B r zs : List PV} (ho : o = ys.length) (hz : zs.length = B.length) :
    putAt (flat (ys.map f) ++ (B ++ r)) (o * sz) zs = flat (ys.map f) ++ (zs ++ r) := by
  rw [adg (A := flat (ys.map f)) (B := B) (C := r) (by rw [List.append_assoc]) (by rw [xq hf, ho]) hz, List.append_assoc]
theorem alz (xs : List (Nm)) (i : Nat) (k c : Nat) (hi : i < xs.length) (hl : xs.length ≤ 1048576) (hc : xs.length ≤ c) (σ : Sto) (hk : σ[k]? = some (.cells (flat (xs.map nm) ++ room ((c - xs.length) * 5)))) :
    jo Try.prog 93 [.xsl k 0 5 xs.length c, .int .i64 i, .int .i64 ((i : Int) + 1)] σ fun x σ' => x = .sl .sh 5 ((xs.take i ++ xs.drop (i + 1)).map nm) ∧ σ' = σ.set k .gone := by
  refine ny tab Try.func93 rfl (nlb rfl) (by decide) fun hso => ?_
  have hf : ∀ x, (nm x).cells.length = 5 := fun _ => rfl
  have hp : ∀ x, (nm x).pl = true := fun _ => rfl
  have hkl : k < σ.length := (List.getElem?_eq_some_iff.1 hk).1
  have c1 : ((i : Int) == (i : Int) + 1) = false := by rw [beq_eq_false_iff_ne]; omega
  have hll : (xs.take i ++ xs.drop (i + 1)).length = xs.length - 1 := by rw [List.length_append, List.length_take, List.length_drop]; omega
  have hes : ∀ e ∈ (xs.take i ++ xs.drop (i + 1)).map nm, e.cells.length = 5 := fun e he => by obtain ⟨x, _, rfl⟩ := List.mem_map.1 he; rfl
  repeat' (first | (apply bn; (first | (apply bv; (apply bu (tt := tt); (focus (conv => lhs; whnf); try exact rfl); exact rfl)) | (apply ai; (first | (apply qx (tt := tt); exact rfl; exact ltn rfl) | (apply az (tt := tt); (focus (conv => lhs; whnf); try exact rfl); exact rfl))) | (apply dw; (apply di true tab; (focus (conv => lhs; whnf; arg 1; whnf; arg 2; whnf); try exact rfl); (exact trivial); exact rfl)) | (apply jr; (apply ni tab; (focus (conv => lhs; whnf; arg 1; whnf; arg 2; whnf); try exact rfl); (exact trivial); exact rfl)) | (apply sj; (apply aa; (apply ig tab; exact rfl; (focus (conv => lhs; whnf); try exact rfl); exact rfl; exact rfl; (focus (conv => lhs; whnf); try exact rfl); (focus (conv => lhs; whnf); try exact rfl); (focus (conv => lhs; whnf); try exact rfl); (omega)); (intro c h; cases h); exact rfl)) | (apply ak))) | (apply bq; (first | (apply bg) | (apply ah) | (apply dm; exact rfl; (assumption)) | (apply gz) | (apply ko (k := 6); exact mixed; decide +kernel; decide +kernel))) | (apply bf) | (apply p9; (first | (apply p8; (first | (apply jg; (apply jf (tt := tt); (focus (conv => lhs; whnf); try exact rfl))) | (apply jw; (apply ig tab; exact rfl; (focus (conv => lhs; whnf); try exact rfl); exact rfl; exact rfl; (focus (conv => lhs; whnf); try exact rfl); (focus (conv => lhs; whnf); try exact rfl); (focus (conv => lhs; whnf); try exact rfl); (omega)))); exact rfl; exact rfl) | (apply oz))))
  refine ajw tab rfl rfl rfl rfl (by show _ = PV.xsl k (0 * 5) 5 i c; (conv => lhs; whnf); simp only [PV.xsl.injEq, PV.int.injEq, List.length_map, List.length_cons, List.length_nil, Int.toNat_natCast, true_and, and_true]; omega) hk (by show _ = PV.xsl k ((i + 1) * 5) 5 (xs.length - (i + 1)) (c - (i + 1)); (conv => lhs; whnf); simp only [PV.xsl.injEq, PV.int.injEq, List.length_map, List.length_cons, List.length_nil, Int.toNat_natCast, true_and, and_true]; omega) (afk hf hp hk (i := i + 1) (q := xs.length - (i + 1)) (Nat.le_refl _) (by omega)) (by omega) (by rw [List.length_append, xq hf, abm]; omega) (aha (fun _ => rfl) _) (ac8 rfl (by omega)) rfl ?_
  rw [show 0 * 5 + i * 5 = i * 5 by omega, List.take_of_length_le (by rw [List.length_drop]; exact Nat.le_refl _), asz hf hi]
  repeat' (first | (apply bn; (first | (apply bv; (apply bu (tt := tt); (focus (conv => lhs; whnf); try exact rfl); exact rfl)) | (apply ai; (apply az (tt := tt); (focus (conv => lhs; whnf); try exact rfl); exact rfl)) | (apply jr; (apply ni tab; (focus (conv => lhs; whnf; arg 1; whnf; arg 2; whnf); try exact rfl); (exact trivial); exact rfl)) | (apply sj; (apply aa; (apply ig tab; exact rfl; (focus (conv => lhs; whnf); try exact rfl); exact rfl; exact rfl; (focus (conv => lhs; whnf); try exact rfl); (focus (conv => lhs; whnf); try exact rfl); (focus (conv => lhs; whnf); try exact rfl); (omega)); (intro c h; cases h); exact rfl)) | (apply ak))) | (apply bq; (first | (apply bg) | (apply ah))) | (apply bf))
  refine arp tab rfl rfl rfl rfl (by show _ = PV.xsl k ((xs.length - 1) * 5) 5 1 (c - (xs.length - 1)); (conv => lhs; whnf); simp only [PV.xsl.injEq, PV.int.injEq, List.length_map, List.length_cons, List.length_nil, Int.toNat_natCast, true_and, and_true]; omega) (agq hkl) (by rw [List.length_append, xq hf, hll, List.length_append, List.length_drop, xq hf, List.length_drop, abm]; omega) ?_
  rw [att hf (by rw [hll]) (by rw [ac1, List.length_drop, xq hf, List.length_drop]; omega), List.set_set]
  have hfr := abt (i := k) (cap := c) hes
  rw [List.length_map, hll] at hfr
  refine ab2 [(0, .sl .sh 5 ((xs.take i ++ xs.drop (i + 1)).map nm))] _ (agq hkl) (aaz hp) ⟨Eq.subst (motive := fun p => Frz k _ _ p) (Eq.symm (by (conv => lhs; whnf); simp only [PV.xsl.injEq, PV.int.injEq, List.length_map, List.length_cons, List.length_nil, Int.toNat_natCast, true_and, and_true]; omega)) hfr, trivial⟩ (ab1.refl _) ?_
  rw [List.set_set]
  repeat' (first | (apply bn; (first | (apply bv; (apply bu (tt := tt); (focus (conv => lhs; whnf); try exact rfl); exact rfl)) | (apply ai; (apply az (tt := tt); (focus (conv => lhs; whnf); try exact rfl); exact rfl)) | (apply ak))) | (apply bq; (first | (apply bg) | (apply ah) | (apply dn))) | (apply bf))
  (change gu _ _ _ _ _ _ _; apply fu; (exact .inr rfl); (focus (repeat' (first | (apply lc; (focus (conv => lhs; whnf); try exact rfl); (exact Wk.same _)) | exact iq))); exact rfl; (exact (List.append_nil _).symm); (rw [List.length_set]; exact Nat.le_refl _); (focus (repeat' (first | exact trivial | refine ⟨?_, ?_⟩))); exact ad6 hso _)
  · exact ⟨rfl, rfl⟩
set_option maxHeartbeats 2000000 in
theorem ary (x : Ix) (c : Cm) (hnl : x.names.length ≤ 1048576) (k5 : c.kind ≠ 5) (σ : Sto) : jo Try.prog 76 [ix x, cm c] σ fun r σ' => r = .tup [ix (aas x c).1, rp (aas x c).2] ∧ σ' = σ := by
  refine ny tab Try.func76 rfl (nlb rfl) (by decide) fun hso => oh ?_
  have v1 := afo x c.name hnl
  unfold aas
  by_cases h0 : u7 x c.name < 0
  · rw [if_pos h0]
    have c0 : decide (u7 x c.name < 0) = true := decide_eq_true h0
    repeat' (first | (apply bn; (first | (apply bv; (apply bu (tt := tt); (focus (conv => lhs; whnf); try exact rfl); exact rfl)) | (apply ai; (apply az (tt := tt); (focus (conv => lhs; whnf); try exact rfl); exact rfl)) | (apply ji; (refine cz (tt := tt) acz (v1 _) rfl rfl rfl rfl rfl ?_)) | (apply dw; (apply di true tab; (focus (conv => lhs; whnf; arg 1; whnf; arg 2; whnf); try exact rfl); (exact trivial); exact rfl)) | (apply fq; (apply aa; (apply aj tab; exact rfl; exact rfl; exact rfl; (focus (conv => lhs; whnf; arg 1; whnf; arg 2; whnf); try skip); (first | exact trivial | exact nlb rfl)); (intro c h; cases h); exact rfl)) | (apply cu; (apply aa; (apply af tab; exact rfl; (focus (conv => lhs; whnf); try exact rfl); exact rfl; (exact (rfl : _ = 3))); (intro c h; cases h); exact rfl)) | (apply iw; (apply iy (tt := tt); (focus (conv => lhs; whnf; arg 1; whnf; arg 2; whnf); try exact rfl); (exact trivial); exact rfl)) | (apply gq; (apply dz tab; exact rfl; exact rfl; exact rfl; exact rfl; exact rfl; exact rfl; exact rfl; exact rfl)) | (apply pq; (apply aa; (apply gy tab; exact rfl; (focus (conv => lhs; whnf; arg 1; whnf; arg 2; whnf); try skip)); (intro c h; cases h); exact rfl)) | (apply je; (apply ik tab; exact rfl; exact rfl; (first | exact (rfl : _ = 2) | exact (rfl : _ = 3) | exact (rfl : _ = 4)); exact rfl)) | (apply lu; (apply kg (tt := tt); (focus (conv => lhs; whnf); try exact rfl); exact rfl; (first | exact (rfl : _ = 0) | exact (rfl : _ = 1)); exact rfl)) | (apply ak))) | (apply bq; (first | (apply bg) | (apply ah) | (apply df; exact rfl; (assumption)) | (apply dn))) | (apply bf) | (apply lq))
    (change gu _ _ _ _ _ _ _; apply fu; (exact .inr rfl); (focus (repeat' (first | (apply mr; exact rfl; exact rfl; exact rfl; (focus (conv => lhs; whnf; arg 1; whnf; arg 2; whnf); try skip); (exact nlb rfl)) | exact iq))); exact rfl; (exact rfl); exact Nat.le_refl _; (focus (repeat' (first | exact trivial | refine ⟨?_, ?_⟩))); exact hso)
    exact ⟨rfl, rfl⟩
  rw [if_neg h0, if_neg k5]
  have c0 : decide (u7 x c.name < 0) = false := decide_eq_false h0
  have i0 : 0 ≤ u7 x c.name := by omega
  have i1 : (u7 x c.name).toNat < x.names.length := x9 (p := (fun n : Nm => wm n.name c.name)) (xs := x.names) i0
  generalize aij x c.name = v at *
  generalize u7 x c.name = q at *
  obtain ⟨k, rfl⟩ := Int.eq_ofNat_of_zero_le i0
  rw [Int.toNat_natCast] at *
  have hC := fun ex : Sto => afg x.names hnl (σ ++ ex)
  simp only [List.length_append, List.append_assoc] at hC
  repeat' (first | (apply bn; (first | (apply bv; (apply bu (tt := tt); (focus (conv => lhs; whnf); try exact rfl); exact rfl)) | (apply ai; (apply az (tt := tt); (focus (conv => lhs; whnf); try exact rfl); exact rfl)) | (apply ji; (refine cz (tt := tt) acz (v1 _) rfl rfl rfl rfl rfl ?_)) | (apply dw; (apply di true tab; (focus (conv => lhs; whnf; arg 1; whnf; arg 2; whnf); try exact rfl); (exact trivial); exact rfl)) | (apply fq; (apply aa; (apply aj tab; exact rfl; exact rfl; exact rfl; (focus (conv => lhs; whnf; arg 1; whnf; arg 2; whnf); try skip); (first | exact trivial | exact nlb rfl)); (intro c h; cases h); exact rfl)) | (apply cu; (apply aa; (apply af tab; exact rfl; (focus (conv => lhs; whnf); try exact rfl); exact rfl; (first | exact (rfl : _ = 1) | exact (rfl : _ = 3))); (intro c h; cases h); exact rfl)) | (apply iw; (apply iy (tt := tt); (focus (conv => lhs; whnf; arg 1; whnf; arg 2; whnf); try exact rfl); (exact trivial); exact rfl)) | (apply gq; (apply dz tab; exact rfl; exact rfl; exact rfl; exact rfl; exact rfl; exact rfl; exact rfl; exact rfl)) | (apply je; (apply ik tab; exact rfl; exact rfl; (first | exact (rfl : _ = 2) | exact (rfl : _ = 3) | exact (rfl : _ = 4)); exact rfl)) | (apply lu; (apply kg (tt := tt); (focus (conv => lhs; whnf); try exact rfl); exact rfl; (first | exact (rfl : _ = 0) | exact (rfl : _ = 1)); exact rfl)) | (apply ak))) | (apply bq; (first | (apply bg) | (apply ah) | (apply dm; exact rfl; (exact rfl)) | (apply gz))) | (apply bf))
  refine aar (tt := tt) aik (hC _) rfl rfl rfl rfl rfl ?_
  rintro r σ' (⟨he, rfl, rfl⟩ | ⟨cp, hcp, rfl, rfl⟩)
  · rw [he] at i1; exact absurd i1 (Nat.not_lt_zero _)
  · repeat' (apply bn; (first | (apply bv; (apply bu (tt := tt); (focus (conv => lhs; whnf); try exact rfl); exact rfl)) | (apply dw; (apply di true tab; (focus (conv => lhs; whnf; arg 1; whnf; arg 2; whnf); try exact rfl); (simp only [InR]; omega); exact rfl))))
    refine aar (tt := tt) ayg (alz x.names k (σ.length + 5) cp i1 hnl hcp _ (wo 5)) rfl rfl rfl rfl rfl ?_
    rintro r σ' ⟨rfl, rfl⟩
    refine zk (abr (τ := σ) 5 .gone) ?_
    repeat' (first | (apply bn; (first | (apply fq; (apply aa; (apply aj tab; exact rfl; exact rfl; exact rfl; (focus (conv => lhs; whnf; arg 1; whnf; arg 2; whnf); try skip); (exact nlb rfl)); (intro c h; cases h); exact rfl)) | (apply cu; (apply aa; (apply af tab; exact rfl; (focus (conv => lhs; whnf); try exact rfl); exact rfl; (exact (rfl : _ = 1))); (intro c h; cases h); exact rfl)) | (apply gq; (apply dz tab; exact rfl; exact rfl; exact rfl; exact rfl; exact rfl; exact rfl; exact rfl; exact rfl)) | (apply pq; (apply aa; (apply gy tab; exact rfl; (focus (conv => lhs; whnf; arg 1; whnf; arg 2; whnf); try skip)); (intro c h; cases h); exact rfl)) | (apply ak))) | (apply bq; (first | (apply bg) | (apply ah) | (apply dn))) | (apply bf))
    (change gu _ _ _ _ _ _ _; apply fu; (exact .inr rfl); (focus (repeat' (first | (apply mr; exact rfl; exact rfl; exact rfl; (focus (conv => lhs; whnf; arg 1; whnf; arg 2; whnf); try skip); (exact nlb rfl)) | exact iq))); exact rfl; (exact rfl); exact Nat.le_refl _; (focus (repeat' (first | exact trivial | refine ⟨?_, ?_⟩))); exact hso)
    exact ⟨rfl, rfl⟩
end Go.Proofs.Ytbpjaiemlkcccaa.Pv
end
section
/- Indexes in the program itself: names put into a row. -/
namespace Go.Proofs.Ytbpjaiemlkcccaa.Pv
open Go
set_option maxRecDepth 100000
theorem ahy (xs : List (Nm)) (i : Nat) (v : Nm) (k c : Nat) (hi : i ≤ xs.length) (hl : xs.length ≤ 1048576) (hc : xs.length ≤ c) (σ : Sto) (hk : σ[k]? = some (.cells (flat (xs.map nm) ++ room ((c - xs.length) * 5)))) :
    jo Try.prog 91 [.xsl k 0 5 xs.length c, .int .i64 i, .sl .sh 5 ([v].map nm)] σ fun x σ' => x = .sl .sh 5 ((aby xs i v).map nm) ∧ σ' = σ.set k .gone := by
  refine ny tab Try.func91 rfl (nlb rfl) (by decide) fun hso => ?_
  have hf : ∀ x, (nm x).cells.length = 5 := fun _ => rfl
  have hp : ∀ x, (nm x).pl = true := fun _ => rfl
  have hes : ∀ e ∈ (aby xs i v).map nm, e.cells.length = 5 := fun e he => by obtain ⟨x, _, rfl⟩ := List.mem_map.1 he; rfl
  have hil := alx xs i v
  have hkl : k < σ.length := (List.getElem?_eq_some_iff.1 hk).1
  have hv1 : ([v].map nm).length = 1 := rfl
  rcases Nat.lt_or_ge i xs.length with hlt | hge
  · have c1 : ((i : Int) == (xs.length : Int)) = false := by simp; omega
    by_cases hroom : xs.length + 1 ≤ c
    · have c2 : decide ((c : Int) < (xs.length : Int) + 1) = false := by simp; omega
      repeat' (first | (apply bn; (first | (apply bv; (apply bu (tt := tt); (focus (conv => lhs; whnf); try exact rfl); exact rfl)) | (apply ai; (first | (apply qx (tt := tt); exact rfl; exact ltn rfl) | (apply az (tt := tt); (focus (conv => lhs; whnf); try exact rfl); exact rfl))) | (apply dw; (apply di true tab; (focus (conv => lhs; whnf; arg 1; whnf; arg 2; whnf); try exact rfl); (first | exact trivial | (simp only [InR]; omega)); exact rfl)) | (apply jr; (first | (apply ni tab; (focus (conv => lhs; whnf; arg 1; whnf; arg 2; whnf); try exact rfl); (exact trivial); exact rfl) | (apply aa; (apply lg tab; exact rfl; (focus (conv => lhs; whnf); try exact rfl)); (intro c h; cases h); exact rfl))) | (apply sj; (apply aa; (apply ig tab; exact rfl; (focus (conv => lhs; whnf); try exact rfl); exact rfl; exact rfl; (focus (conv => lhs; whnf); try exact rfl); (focus (conv => lhs; whnf); try exact rfl); (focus (conv => lhs; whnf); try exact rfl); (omega)); (intro c h; cases h); exact rfl)) | (apply ak))) | (apply bq; (first | (apply bg) | (apply ah) | (apply dm; exact rfl; (first | exact rfl | assumption)) | (apply gz))) | (apply bf))
      refine an8 tab Try.func104 rfl rfl rfl rfl rfl rfl rfl (by show _ = PV.xsl k ((i + 1) * 5) 5 (xs.length - i) (c - (i + 1)); (conv => lhs; whnf); simp only [PV.xsl.injEq, PV.int.injEq, List.length_map, List.length_cons, List.length_nil, Int.toNat_natCast, true_and, and_true]; omega) hk rfl rfl ?_
      repeat' (first | (apply bn; (first | (apply qy; (apply pu (tt := tt) true; (focus (conv => lhs; whnf; arg 1; whnf; arg 2; whnf); try exact rfl); (exact trivial); exact rfl)) | (apply ak))) | (apply bq; (first | (apply bg) | (apply df; exact rfl; (exact rfl)) | (apply ko (k := 8); exact mixed; decide +kernel; decide +kernel))) | (apply bf) | (apply p9; (first | (apply p8; (first | (apply jg; (apply jf (tt := tt); (focus (conv => lhs; whnf); try exact rfl))) | (apply kv; (apply ek true tab; (focus (conv => lhs; whnf; arg 1; whnf; arg 2; whnf); try exact rfl); (simp only [InR]; omega))) | (apply jw; (apply ig tab; exact rfl; (focus (conv => lhs; whnf); try exact rfl); exact rfl; exact rfl; (focus (conv => lhs; whnf); try exact rfl); (focus (conv => lhs; whnf); try exact rfl); (focus (conv => lhs; whnf); try exact rfl); (omega)))); exact rfl; exact rfl) | (apply oz))))
      refine ag8 tab rfl rfl (by show _ = PV.xsl k ((i + 1) * 5) 5 (xs.length - i) (c - (i + 1)); (conv => lhs; whnf); simp only [PV.xsl.injEq, PV.int.injEq, List.length_map, List.length_cons, List.length_nil, Int.toNat_natCast, true_and, and_true]; omega) hk (by show _ = PV.xsl k (i * 5) 5 (xs.length + 1 - i) (c - i); (conv => lhs; whnf); simp only [PV.xsl.injEq, PV.int.injEq, List.length_map, List.length_cons, List.length_nil, Int.toNat_natCast, true_and, and_true]; omega) (afk hf hp hk (i := i) (q := xs.length - i) (by omega) (by omega)) (by omega) (by rw [List.length_append, xq hf, abm]; omega) (aha (fun _ => rfl) _) rfl ?_
      have e1 : (flat (((xs.drop i).take (xs.length - i)).map nm)).take (min (xs.length + 1 - i) (xs.length - i) * 5) = flat ((xs.drop i).map nm) := by
        rw [Nat.min_eq_right (by omega), List.take_of_length_le (by rw [xq hf, List.length_take]; exact Nat.mul_le_mul_right _ (Nat.min_le_left _ _)), List.take_of_length_le (by rw [List.length_drop]; exact Nat.le_refl _)]
      rw [e1]
      repeat' (first | (apply bn; (first | (apply bv; (apply bu (tt := tt); (focus (conv => lhs; whnf); try exact rfl); exact rfl)) | (apply sj; (apply aa; (apply ig tab; exact rfl; (focus (conv => lhs; whnf); try exact rfl); exact rfl; exact rfl; (focus (conv => lhs; whnf); try exact rfl); (focus (conv => lhs; whnf); try exact rfl); (focus (conv => lhs; whnf); try exact rfl); (omega)); (intro c h; cases h); exact rfl)) | (apply ak))) | (apply bq; (first | (apply bg) | (apply ah))) | (apply bf))
      refine ag8 tab rfl rfl (by show _ = PV.xsl k (i * 5) 5 (xs.length + 1 - i) (c - i); (conv => lhs; whnf); simp only [PV.xsl.injEq, PV.int.injEq, List.length_map, List.length_cons, List.length_nil, Int.toNat_natCast, true_and, and_true]; omega) (agq hkl) rfl (.sl _) (Nat.min_le_left _ _) (by rw [(aax _ _ _ _).1, List.length_append, xq hf, abm]; omega; rw [List.length_append, xq hf, xq hf, abm, List.length_drop]; omega) rfl rfl ?_
      have e2 : (flat ([v].map nm)).take (min ([v].map nm).length (xs.length + 1 - i) * 5) = flat ([v].map nm) := List.take_of_length_le (by rw [adp hf, hv1, Nat.min_eq_left (by omega)]; exact Nat.le_refl _)
      rw [e2, List.set_set, awd hf hlt hroom]
      have hfr := abt (i := k) (cap := c) hes
      rw [List.length_map, hil] at hfr
      refine ab2 [(0, .sl .sh 5 ((aby xs i v).map nm))] _ (agq hkl) (aaz hp) ⟨Eq.subst (motive := fun p => Frz k _ _ p) (Eq.symm (by (conv => lhs; whnf); simp only [PV.xsl.injEq, PV.int.injEq, List.length_map, List.length_cons, List.length_nil, Int.toNat_natCast, true_and, and_true]; omega)) hfr, trivial⟩ (ab1.refl _) ?_
      rw [List.set_set]
      repeat' (first | (apply bn; (first | (apply bv; (apply bu (tt := tt); (focus (conv => lhs; whnf); try exact rfl); exact rfl)) | (apply ai; (apply az (tt := tt); (focus (conv => lhs; whnf); try exact rfl); exact rfl)) | (apply ak))) | (apply bq; (first | (apply bg) | (apply ah) | (apply dn))) | (apply bf) | (apply lq))
      (change gu _ _ _ _ _ _ _; apply fu; (exact .inr rfl); (focus (repeat' (first | (apply lc; (focus (conv => lhs; whnf); try exact rfl); (exact Wk.same _)) | exact iq))); exact rfl; (exact (List.append_nil _).symm); (rw [List.length_set]; exact Nat.le_refl _); (focus (repeat' (first | exact trivial | refine ⟨?_, ?_⟩))); exact ad6 hso _)
      · exact ⟨rfl, rfl⟩
    · have c2 : decide ((c : Int) < (xs.length : Int) + 1) = true := by simp; omega
      repeat' (first | (apply bn; (first | (apply bv; (apply bu (tt := tt); (focus (conv => lhs; whnf); try exact rfl); exact rfl)) | (apply ai; (first | (apply qx (tt := tt); exact rfl; exact ltn rfl) | (apply az (tt := tt); (focus (conv => lhs; whnf); try exact rfl); exact rfl))) | (apply dw; (apply di true tab; (focus (conv => lhs; whnf; arg 1; whnf; arg 2; whnf); try exact rfl); (first | exact trivial | (simp only [InR]; omega)); exact rfl)) | (apply jr; (first | (apply ni tab; (focus (conv => lhs; whnf; arg 1; whnf; arg 2; whnf); try exact rfl); (exact trivial); exact rfl) | (apply aa; (apply lg tab; exact rfl; (focus (conv => lhs; whnf); try exact rfl)); (intro c h; cases h); exact rfl))) | (apply sj; (apply aa; (apply ig tab; exact rfl; (focus (conv => lhs; whnf); try exact rfl); exact rfl; exact rfl; (focus (conv => lhs; whnf); try exact rfl); (focus (conv => lhs; whnf); try exact rfl); (focus (conv => lhs; whnf); try exact rfl); (omega)); (intro c h; cases h); exact rfl)) | (apply ak))) | (apply bq; (first | (apply bg) | (apply ah) | (apply df; exact rfl; (assumption)) | (apply dm; exact rfl; (first | exact rfl | assumption)) | (apply gz))) | (apply bf))
      refine apo (z := ((xs.length + 1 - i : Nat) : Int)) tab rfl rfl rfl rfl (by show _ = PV.xsl k (0 * 5) 5 i c; (conv => lhs; whnf); simp only [PV.xsl.injEq, PV.int.injEq, List.length_map, List.length_cons, List.length_nil, Int.toNat_natCast, true_and, and_true]; omega) (afk hf hp hk (i := 0) (q := i) (Nat.le_refl _) (by omega)) (by show _ = PV.int .i64 ((xs.length + 1 - i : Nat) : Int); (conv => lhs; whnf); simp only [PV.xsl.injEq, PV.int.injEq, List.length_map, List.length_cons, List.length_nil, Int.toNat_natCast, true_and, and_true]; omega) (by omega) (by rw [Int.toNat_natCast]; omega) (ac8 rfl (by rw [Int.toNat_natCast]; omega)) rfl ?_
      intro c' hc'
      rw [Int.toNat_natCast, show i + (xs.length + 1 - i) = xs.length + 1 by omega] at hc'
      rw [Int.toNat_natCast, show i + (xs.length + 1 - i) = xs.length + 1 by omega, List.drop_zero]
      have hti : (xs.take i).length = i := by rw [List.length_take]; omega
      have e1 : (flat (((xs.drop i).take (xs.length - i)).map nm)).take (min (xs.length - i) (xs.length - i) * 5) = flat ((xs.drop i).map nm) := by
        rw [Nat.min_self, List.take_of_length_le (by rw [xq hf, List.length_take]; exact Nat.mul_le_mul_right _ (Nat.min_le_left _ _)), List.take_of_length_le (by rw [List.length_drop]; exact Nat.le_refl _)]
      have e2 : (flat ([v].map nm)).take (min ([v].map nm).length (xs.length + 1 - i) * 5) = flat ([v].map nm) := List.take_of_length_le (by rw [adp hf, hv1, Nat.min_eq_left (by omega)]; exact Nat.le_refl _)
      repeat' (first | (apply bn; (first | (apply bv; (apply bu (tt := tt); (focus (conv => lhs; whnf); try exact rfl); exact rfl)) | (apply ai; (apply az (tt := tt); (focus (conv => lhs; whnf); try exact rfl); exact rfl)) | (apply sj; (apply aa; (apply ig tab; exact rfl; (focus (conv => lhs; whnf); try exact rfl); exact rfl; exact rfl; (focus (conv => lhs; whnf); try exact rfl); (focus (conv => lhs; whnf); try exact rfl); (focus (conv => lhs; whnf); try exact rfl); (omega)); (intro c h; cases h); exact rfl)) | (apply ak))) | (apply bq; (first | (apply bg) | (apply ah))) | (apply bf))
      refine ag8 tab rfl rfl (by show _ = PV.xsl σ.length (i * 5) 5 (xs.length + 1 - i) (c' - i); (conv => lhs; whnf); simp only [PV.xsl.injEq, PV.int.injEq, List.length_map, List.length_cons, List.length_nil, Int.toNat_natCast, true_and, and_true]; omega) afm rfl (.sl _) (Nat.min_le_left _ _) (by rw [List.length_append, xq hf, List.length_replicate, hti]; omega) rfl rfl ?_
      rw [e2, afp]
      repeat' (first | (apply bn; (apply ak)) | (apply bq; (first | (apply bg) | (apply ko (k := 8); exact mixed; decide +kernel; decide +kernel))) | (apply bf) | (apply p9; (first | (apply p8; (first | (apply jg; (apply jf (tt := tt); (focus (conv => lhs; whnf); try exact rfl))) | (apply kv; (apply ek true tab; (focus (conv => lhs; whnf; arg 1; whnf; arg 2; whnf); try exact rfl); (simp only [InR]; omega))) | (apply jw; (apply ig tab; exact rfl; (focus (conv => lhs; whnf); try exact rfl); exact rfl; exact rfl; (focus (conv => lhs; whnf); try exact rfl); (focus (conv => lhs; whnf); try exact rfl); (focus (conv => lhs; whnf); try exact rfl); (omega)))); exact rfl; exact rfl) | (apply oz))))
      refine ag8 tab rfl rfl (by show _ = PV.xsl σ.length ((i + 1) * 5) 5 (xs.length - i) (c' - (i + 1)); (conv => lhs; whnf); simp only [PV.xsl.injEq, PV.int.injEq, List.length_map, List.length_cons, List.length_nil, Int.toNat_natCast, true_and, and_true]; omega) afm (by show _ = PV.xsl k (i * 5) 5 (xs.length - i) (c - i); (conv => lhs; whnf); simp only [PV.xsl.injEq, PV.int.injEq, List.length_map, List.length_cons, List.length_nil, Int.toNat_natCast, true_and, and_true]; omega) (afk hf hp (ae hk) (i := i) (q := xs.length - i) (Nat.le_refl _) (by omega)) (Nat.min_le_left _ _) (by rw [(aax _ _ _ _).1, List.length_append, xq hf, List.length_replicate, hti]; omega; rw [List.length_append, adp hf, xq hf, List.length_replicate, hti]; omega) (aha (fun _ => rfl) _) rfl ?_
      rw [e1, afp, au4 hf hlt hc']
      have hfr := abt (i := σ.length) (cap := c') hes
      rw [List.length_map, hil] at hfr
      refine amq k (ab2 [(9, .sl .sh 5 ((aby xs i v).map nm))] (σ.set k .gone ++ [.gone]) (i := σ.length) (by rw [aih hkl]; rw [show σ.length = (σ.set k .gone).length by simp]; exact afm) (aaz hp) ⟨hfr, trivial⟩ (by rw [aih hkl]; rw [show σ.length = (σ.set k .gone).length by simp, afp]; exact ab1.refl _) ?_)
      repeat' (first | (apply bn; (first | (apply bv; (apply bu (tt := tt); (focus (conv => lhs; whnf); try exact rfl); exact rfl)) | (apply ai; (apply az (tt := tt); (focus (conv => lhs; whnf); try exact rfl); exact rfl)) | (apply ak))) | (apply bq; (first | (apply bg) | (apply ah) | (apply dn))) | (apply bf) | (apply lq))
      (change gu _ _ _ _ _ _ _; apply fu; (exact .inr rfl); (focus (repeat' (first | (apply lc; (focus (conv => lhs; whnf); try exact rfl); (exact Wk.same _)) | exact iq))); exact rfl; (exact rfl); (rw [List.length_set]; exact Nat.le_refl _); (focus (repeat' (first | exact trivial | refine ⟨?_, ?_⟩))); exact ad6 hso _)
      · exact ⟨rfl, rfl⟩
  · have hin : i = xs.length := by omega
    subst hin
    have c1 : ((xs.length : Int) == (xs.length : Int)) = true := by simp
    by_cases hroom : xs.length + 1 ≤ c
    · repeat' (first | (apply bn; (first | (apply bv; (apply bu (tt := tt); (focus (conv => lhs; whnf); try exact rfl); exact rfl)) | (apply ai; (first | (apply qx (tt := tt); exact rfl; exact ltn rfl) | (apply az (tt := tt); (focus (conv => lhs; whnf); try exact rfl); exact rfl))) | (apply dw; (apply di true tab; (focus (conv => lhs; whnf; arg 1; whnf; arg 2; whnf); try exact rfl); (exact trivial); exact rfl)) | (apply jr; (apply ni tab; (focus (conv => lhs; whnf; arg 1; whnf; arg 2; whnf); try exact rfl); (exact trivial); exact rfl)) | (apply sj; (apply aa; (apply ig tab; exact rfl; (focus (conv => lhs; whnf); try exact rfl); exact rfl; exact rfl; (focus (conv => lhs; whnf); try exact rfl); (focus (conv => lhs; whnf); try exact rfl); (focus (conv => lhs; whnf); try exact rfl); (omega)); (intro c h; cases h); exact rfl)) | (apply ak))) | (apply bq; (first | (apply bg) | (apply ah) | (apply df; exact rfl; (assumption)) | (apply dm; exact rfl; (exact rfl)) | (apply gz))) | (apply bf))
      refine ajw tab rfl rfl rfl rfl rfl hk rfl (.sl _) (by rw [hv1]; exact hroom) (by rw [hv1, List.length_append, xq hf, abm]; omega) rfl (ac8 rfl (by rw [hv1]; omega)) rfl ?_
      rw [hv1, au5 hf hroom]
      have hfr := abt (i := k) (cap := c) hes
      rw [List.length_map, hil] at hfr
      refine ab2 [(25, .sl .sh 5 ((aby xs xs.length v).map nm))] _ (agq hkl) (aaz hp) ⟨hfr, trivial⟩ (ab1.refl _) ?_
      rw [List.set_set]
      repeat' (first | (apply bn; (first | (apply ai; (apply az (tt := tt); (focus (conv => lhs; whnf); try exact rfl); exact rfl)) | (apply ak))) | (apply bq; (apply dn)) | (apply bf) | (apply lq))
      (change gu _ _ _ _ _ _ _; apply fu (ex := []); (exact .inr rfl); (focus (repeat' (first | (apply lc; (focus (conv => lhs; whnf); try exact rfl); (exact Wk.same _)) | exact iq))); exact rfl; exact (List.append_nil _).symm; (rw [List.length_set]; exact Nat.le_refl _); (focus (repeat' (first | exact trivial | refine ⟨?_, ?_⟩))))
      · exact ad6 hso k
      · exact ⟨rfl, rfl⟩
    · repeat' (first | (apply bn; (first | (apply bv; (apply bu (tt := tt); (focus (conv => lhs; whnf); try exact rfl); exact rfl)) | (apply ai; (first | (apply qx (tt := tt); exact rfl; exact ltn rfl) | (apply az (tt := tt); (focus (conv => lhs; whnf); try exact rfl); exact rfl))) | (apply dw; (apply di true tab; (focus (conv => lhs; whnf; arg 1; whnf; arg 2; whnf); try exact rfl); (exact trivial); exact rfl)) | (apply jr; (apply ni tab; (focus (conv => lhs; whnf; arg 1; whnf; arg 2; whnf); try exact rfl); (exact trivial); exact rfl)) | (apply sj; (apply aa; (apply ig tab; exact rfl; (focus (conv => lhs; whnf); try exact rfl); exact rfl; exact rfl; (focus (conv => lhs; whnf); try exact rfl); (focus (conv => lhs; whnf); try exact rfl); (focus (conv => lhs; whnf); try exact rfl); (omega)); (intro c h; cases h); exact rfl)) | (apply ak))) | (apply bq; (first | (apply bg) | (apply ah) | (apply df; exact rfl; (assumption)) | (apply dm; exact rfl; (exact rfl)) | (apply gz))) | (apply bf))
      refine ab7 tab rfl rfl rfl rfl rfl (afk hf hp hk (i := 0) (q := xs.length) (Nat.le_refl _) (by omega)) rfl (.sl _) (by rw [hv1]; omega) (ac8 rfl (by rw [hv1]; omega)) rfl ?_
      intro c' hc'
      rw [hv1] at hc' ⊢
      have hfr := abt (i := σ.length) (cap := c') hes
      rw [List.length_map, hil] at hfr
      have e1 : flat (((xs.drop 0).take xs.length).map nm) ++ flat ([v].map nm) = flat ((aby xs xs.length v).map nm) := by
        rw [ajl, List.drop_length, List.map_nil, List.drop_zero, List.take_length]; simp [flat]
      rw [e1]
      have hgl : σ.length = (σ.set k .gone).length := by simp
      refine amq k (ab2 [(25, .sl .sh 5 ((aby xs xs.length v).map nm))] (σ.set k .gone ++ [.gone]) (i := σ.length) (by rw [aih hkl]; rw [show σ.length = (σ.set k .gone).length by simp]; exact afm) (aaz hp) ⟨hfr, trivial⟩ (by rw [aih hkl]; rw [show σ.length = (σ.set k .gone).length by simp, afp]; exact ab1.refl _) ?_)
      repeat' (first | (apply bn; (first | (apply ai; (apply az (tt := tt); (focus (conv => lhs; whnf); try exact rfl); exact rfl)) | (apply ak))) | (apply bq; (apply dn)) | (apply bf) | (apply lq))
      (change gu _ _ _ _ _ _ _; apply fu; (exact .inr rfl); (focus (repeat' (first | (apply lc; (focus (conv => lhs; whnf); try exact rfl); (exact Wk.same _)) | exact iq))); exact rfl; (exact rfl); (rw [List.length_set]; exact Nat.le_refl _); (focus (repeat' (first | exact trivial | refine ⟨?_, ?_⟩))); exact ad6 hso _)
      · exact ⟨rfl, rfl⟩
theorem alf (v : Nm) (σ : Sto) : jo Try.prog 91 [.xsl 0 0 5 0 0, .int .i64 0, .sl .sh 5 ([v].map nm)] σ fun x σ' => x = .sl .sh 5 ([v].map nm) ∧ σ' = σ := by
  refine ny tab Try.func91 rfl (nlb rfl) (by decide) fun hso => ?_
  have hf : ∀ x, (nm x).cells.length = 5 := fun _ => rfl
  have hp : ∀ x, (nm x).pl = true := fun _ => rfl
  have hes : ∀ e ∈ [v].map nm, e.cells.length = 5 := fun e he => by obtain ⟨x, _, rfl⟩ := List.mem_map.1 he; rfl
  have hv1 : ([v].map nm).length = 1 := rfl
  repeat' (first | (apply bn; (first | (apply bv; (apply bu (tt := tt); (focus (conv => lhs; whnf); try exact rfl); exact rfl)) | (apply ai; (first | (apply qx (tt := tt); exact rfl; exact ltn rfl) | (apply az (tt := tt); (focus (conv => lhs; whnf); try exact rfl); exact rfl))) | (apply dw; (apply di true tab; (focus (conv => lhs; whnf; arg 1; whnf; arg 2; whnf); try exact rfl); (exact trivial); exact rfl)) | (apply jr; (apply ni tab; (focus (conv => lhs; whnf; arg 1; whnf; arg 2; whnf); try exact rfl); (exact trivial); exact rfl)) | (apply sj; (apply aa; (apply ig tab; exact rfl; (focus (conv => lhs; whnf); try exact rfl); exact rfl; exact rfl; (focus (conv => lhs; whnf); try exact rfl); (focus (conv => lhs; whnf); try exact rfl); (focus (conv => lhs; whnf); try exact rfl); (omega)); (intro c h; cases h); exact rfl)) | (apply ak))) | (apply bq; (first | (apply bg) | (apply ah) | (apply df; exact rfl; (exact rfl)) | (apply dm; exact rfl; (exact rfl)) | (apply gz))) | (apply bf))
  refine ab7 tab rfl rfl rfl rfl rfl (.none 0 0 0) rfl (.sl _) (by rw [hv1]; omega) (ac8 rfl (by rw [hv1]; omega)) rfl ?_
  intro c' hc'
  have hfr := abt (i := σ.length) (cap := c') hes
  refine ab2 [(25, .sl .sh 5 ([v].map nm))] (σ ++ [.gone]) (i := σ.length) afm (aaz hp) ⟨hfr, trivial⟩ (by rw [afp]; exact ab1.refl _) ?_
  repeat' (first | (apply bn; (first | (apply ai; (apply az (tt := tt); (focus (conv => lhs; whnf); try exact rfl); exact rfl)) | (apply ak))) | (apply bq; (apply dn)) | (apply bf) | (apply lq))
  (change gu _ _ _ _ _ _ _; apply fu; (exact .inr rfl); (focus (repeat' (first | (apply lc; (focus (conv => lhs; whnf); try exact rfl); (exact Wk.same _)) | exact iq))); exact rfl; (exact rfl); exact Nat.le_refl _; (focus (repeat' (first | exact trivial | refine ⟨?_, ?_⟩))); exact hso)
  exact ⟨rfl, rfl⟩
end Go.Proofs.Ytbpjaiemlkcccaa.Pv
end
section
/- Indexes in the program itself: bytes named, by a new name. -/
namespace Go.Proofs.Ytbpjaiemlkcccaa.Pv
open Go
set_option maxRecDepth 100000
theorem uj {P : Program} {l : Option Nat} {n m : Nat} {all : Array Oper} {env : Env} {σ0 σ1 : Sto} {o : Oper} {ws ws' : Ws} (h : StepO P l n m all env σ0 σ1 o ws') (e : ws' = ws) : StepO P l n m all env σ0 σ1 o ws := e ▸ h
set_option maxHeartbeats 8000000 in
theorem ar4 (x : Ix) (c : Cm) (hl : x.vols.length ≤ 1048576) (hnl : x.names.length ≤ 1048576) (hpa : ∀ v ∈ x.vols, v.parts.length ≤ 1048576) (ho : 0 ≤ c.off ∧ c.off ≤ 1048576) (hn : 0 ≤ c.n ∧ c.n ≤ 1048576) (hg : wm c.name ⟨#[]⟩ = false ∧ ¬ ol x c.vol < 0 ∧ (x.vols.getD (ol x c.vol).toNat default).phase = 1 ∧ ¬ (c.n = 0 ∨ (x.vols.getD (ol x c.vol).toNat default).used < c.off + c.n) ∧ u7 x c.name < 0 ∧ x.names.length < 64) (hx : x.names ≠ []) (σ : Sto) : jo Try.prog 75 [ix x, cm c] σ fun r σ' => r = .tup [ix (aco x c).1, rp (aco x c).2] ∧ σ' = σ := by
  refine ny tab Try.func75 rfl (nlb rfl) (by decide) fun hso => oh ?_
  have v1 := abv x c.vol hl
  have n1 := afo x c.name hnl
  obtain ⟨h0', h1, h2, h3, hk, h64⟩ := hg
  unfold aco
  rw [if_neg (by rw [h0']; decide), if_neg h1, if_neg (fun h => h h2), if_neg h3, if_neg (by omega)]
  have c1 : decide (ol x c.vol < 0) = false := decide_eq_false h1
  have i0 : 0 ≤ ol x c.vol := by omega
  have i1 : (ol x c.vol).toNat < x.vols.length := x9 (p := (fun v : Vl => v.id == c.vol)) (xs := x.vols) i0
  have hN : adj x c = aby x.names (if qc (gtN c.name) x.names < 0 then x.names.length else (qc (gtN c.name) x.names).toNat) (abh c) := by
    unfold adj; rw [if_neg (by omega)]
  have hpl := hpa _ (uq i1)
  rw [abp h1] at v1
  generalize ol x c.vol = i at *
  generalize aij x c.name = w at *
  generalize u7 x c.name = k at *
  generalize x.vols.getD i.toNat default = v at *
  generalize adj x c = nms at *
  have c2 : (v.phase != 1) = false := by simpa using h2
  have c4 : (c.n == 0) = false := by
    rw [beq_eq_false_iff_ne]; exact fun h => h3 (.inl h)
  have c5 : decide (v.used < c.off + c.n) = false := decide_eq_false fun h => h3 (.inr h)
  have w0 := ahw v.parts (-1) (c.off, c.n) hpl (.inl (by omega))
  rw [show ql v.parts (-1) (c.off, c.n) = (aa6 v c).parts from if_pos (by omega)] at w0
  have w1 := aak x.vols i (aa6 v c) hl (.inr i1)
  rw [show vl (aa6 v c) = .agg [.int .i64 v.id, .int .i64 v.home, .int .i64 v.mate, .int .i64 v.used, .int .i64 v.phase, .sl .sh 2 ((aa6 v c).parts.map plc), .sl .sh 2 (v.places.map plc), .int .i64 v.pair, .int .i64 v.sum] from rfl] at w1
  generalize ql x.vols i (aa6 v c) = vs1 at *
  generalize (aa6 v c).parts = ps at *
  have c6 : decide (k < 0) = true := decide_eq_true hk
  have c6' : decide (0 ≤ k) = false := decide_eq_false (by omega)
  rw [c6']
  have c7 : decide (64 ≤ (x.names.length : Int)) = false := decide_eq_false (by omega)
  have c7m : decide (64 ≤ ((x.names.map nm).length : Int)) = false := by rw [List.length_map]; exact c7
  have hC := fun ex : Sto => afg x.names hnl (σ ++ ex)
  simp only [List.length_append, List.append_assoc] at hC
  repeat' (first | (apply bn; (first | (apply jq; (apply jc; exact (rfl : _ = some _); exact (rfl : _ = PV.bool _); (assumption))) | (apply bv; (apply bu (tt := tt); (focus (conv => lhs; whnf); try exact rfl); exact rfl)) | (apply ai; (apply az (tt := tt); (focus (conv => lhs; whnf); try exact rfl); exact rfl)) | (apply ji; (first | (refine cz (tt := tt) tu (v1 _) rfl rfl rfl rfl rfl ?_) | (refine cz (tt := tt) acz (n1 _) rfl rfl rfl rfl rfl ?_) | (refine cz (tt := tt) apj (w0 _) rfl rfl rfl rfl rfl ?_) | (refine cz (tt := tt) ad4 (w1 _) rfl rfl rfl rfl rfl ?_))) | (apply dw; (apply di true tab; (focus (conv => lhs; whnf; arg 1; whnf; arg 2; whnf); try exact rfl); (first | exact trivial | (simp only [InR]; omega)); exact rfl)) | (apply kr; (apply ku (tt := tt); exact (rfl : _ = PV.bool _); (first | refine .inl ⟨by assumption, ?_⟩ | refine .inr ⟨by assumption, ?_⟩); (focus (conv => lhs; whnf); try exact rfl); exact ltn rfl)) | (apply fq; (apply aa; (apply aj tab; exact rfl; exact rfl; exact rfl; (focus (conv => lhs; whnf; arg 1; whnf; arg 2; whnf); try skip); (first | exact trivial | exact nlb rfl)); (intro c h; cases h); exact rfl)) | (apply jr; (apply ni tab; (focus (conv => lhs; whnf; arg 1; whnf; arg 2; whnf); try exact rfl); (exact trivial); exact rfl)) | (apply cu; (apply aa; (apply af tab; exact rfl; (focus (conv => lhs; whnf); try exact rfl); exact rfl; (first | exact (rfl : _ = 0) | exact (rfl : _ = 1) | exact (rfl : _ = 3) | exact (rfl : _ = 4) | exact (rfl : _ = 5) | exact (rfl : _ = 6) | exact (rfl : _ = 7))); (intro c h; cases h); exact rfl)) | (apply iw; (apply iy (tt := tt); (focus (conv => lhs; whnf; arg 1; whnf; arg 2; whnf); try exact rfl); (exact trivial); exact rfl)) | (apply gq; (apply dz tab; exact rfl; exact rfl; exact rfl; exact rfl; exact rfl; exact rfl; exact rfl; exact rfl)) | (apply pq; (apply aa; (apply gy tab; exact rfl; (focus (conv => lhs; whnf; arg 1; whnf; arg 2; whnf); try skip)); (intro c h; cases h); exact rfl)) | (apply qd; (apply aa; (apply dx (tt := tt); exact rfl; exact rfl; (focus (conv => lhs; whnf); try exact rfl)); (intro c h; cases h); exact rfl)) | (apply je; (apply ik tab; exact rfl; exact rfl; (first | exact (rfl : _ = 2) | exact (rfl : _ = 3) | exact (rfl : _ = 4) | exact (rfl : _ = 5) | exact (rfl : _ = 6)); exact rfl)) | (apply lu; (apply kg (tt := tt); (focus (conv => lhs; whnf); try exact rfl); exact rfl; (first | exact (rfl : _ = 0) | exact (rfl : _ = 1)); exact rfl)) | (apply ak))) | (apply bq; (first | (apply bg) | (apply ah) | (apply dm; exact rfl; (assumption)) | (apply gz) | (apply ed))) | (apply bf) | (apply ng))
  refine aa1 [(2, .ptr (σ.length + 0) 0), (3, .ptr (σ.length + 1) 0), (4, .ptr (σ.length + 2) 0), (5, .ptr (σ.length + 3) 0), (10, .ptr (σ.length + 6) 0), (109, .sl .sh 5 (x.names.map nm)), (110, .fn (.func 90) [] [.ptr (σ.length + 1) 0])] ?_ (zk (σ' := σ ++ [.cells [.sl .sh 9 (vs1.map vl), .sl .sh 5 (x.names.map nm), .sl .sh 8 (x.last.map ss)], .cells (cm c).cells, .cells [.sl .ow 9 [], .sl .ow 5 [], .sl .ow 8 []], .cells [.int .i64 0, .int .i64 0, .int .i64 0, .int .i64 0, .int .u32 0, .bool false], .cells [.int .i64 v.id, .int .i64 v.home, .int .i64 v.mate, .int .i64 v.used, .int .i64 v.phase, .sl .sh 2 (ps.map plc), .sl .sh 2 (v.places.map plc), .int .i64 v.pair, .int .i64 v.sum], .cells (nm w).cells, .cells (nm (abh c)).cells]) rfl ?_)
  · (repeat' (first | exact trivial | exact Wk.same _ | refine ⟨?_, ?_⟩))
  refine cz (tt := tt) apg (ahf (gtN c.name) x.names hnl _ aux (fun ex y _ => anp y (σ.length + 1) c _ ?_) ?_) rfl rfl rfl rfl rfl ?_
  rotate_left 2
  · by_cases hgt : qc (gtN c.name) x.names < 0
    · rw [if_pos hgt] at hN
      have d1 : decide (qc (gtN c.name) x.names < 0) = true := decide_eq_true hgt
      repeat' (first | (apply bn; (first | (apply bv; (apply bu (tt := tt); (focus (conv => lhs; whnf); try exact rfl); exact rfl)) | (apply ai; (apply az (tt := tt); (focus (conv => lhs; whnf); try exact rfl); exact rfl)) | (apply dw; (apply di true tab; (focus (conv => lhs; whnf; arg 1; whnf; arg 2; whnf); try exact rfl); (exact trivial); exact rfl)) | (apply fq; (apply aa; (apply aj tab; exact rfl; exact rfl; exact rfl; (focus (conv => lhs; whnf; arg 1; whnf; arg 2; whnf); try skip); (exact trivial)); (intro c h; cases h); exact rfl)) | (apply jr; (apply ni tab; (focus (conv => lhs; whnf; arg 1; whnf; arg 2; whnf); try exact rfl); (exact trivial); exact rfl)) | (apply cu; (apply aa; (apply af tab; exact rfl; (focus (conv => lhs; whnf); try exact rfl); exact rfl; (exact (rfl : _ = 1))); (intro c h; cases h); exact rfl)) | (apply iw; (apply iy (tt := tt); (focus (conv => lhs; whnf; arg 1; whnf; arg 2; whnf); try exact rfl); (exact trivial); exact rfl)) | (apply gq; (apply dz tab; exact rfl; exact rfl; exact rfl; exact rfl; exact rfl; exact rfl; exact rfl; exact rfl)) | (apply je; (apply ik tab; exact rfl; exact rfl; (exact (rfl : _ = 7)); exact rfl)) | (apply ak))) | (apply bq; (first | (apply bg) | (apply ah) | (apply df; exact rfl; (assumption)))) | (apply bf))
      rw [show x.names.length = (x.names.map nm).length by rw [List.length_map]] at hN
      have hle : (x.names.map nm).length ≤ x.names.length := by rw [List.length_map]; exact Nat.le_refl _
      generalize (x.names.map nm).length = q at *
      refine ahs (α := Nat) (k := 7) (j := 2) (j2 := 6) (keys := [[119], [120], [121], [122], [123], [124], [125]]) (R := fun cp => x.names.length ≤ cp) (wsj := fun cp => [(121, .xsl (σ.length + 8) 0 5 x.names.length cp)]) (bx := fun cp => .cells (flat (x.names.map nm) ++ room ((cp - x.names.length) * 5)))
        (wss0 := [[(119, .ptr (σ.length + 0) 1)], [(120, .sl .sh 5 (x.names.map nm))], [(121, .dead)], [(122, .int .i64 (q : Int))], [(123, nm (abh c))], [(124, .sl .ow 5 [nm (abh c)])], [(125, .dead)]])
        (wss := fun cp => [[(119, .ptr (σ.length + 0) 1)], [(120, .sl .sh 5 (x.names.map nm))], [(121, .xsl (σ.length + 8) 0 5 x.names.length cp)], [(122, .int .i64 (q : Int))], [(123, nm (abh c))], [(124, .sl .ow 5 [nm (abh c)])], [(125, .sl .sh 5 ((aby x.names q (abh c)).map nm))]])
        mixed (by decide +kernel) (by decide +kernel) rfl rfl ?_ ?_ ?_
      · refine yh rfl rfl ?_ (yh rfl rfl ?_ (afa rfl (by decide +kernel) (yh rfl rfl ?_ (yh rfl rfl ?_ (yh rfl rfl ?_ (afa rfl (by decide +kernel) akb))))))
        · intro a _ _
          show StepO _ _ _ _ _ _ (σ ++ _) (σ ++ _) _ _
          apply uj (ws' := [(_, _)])
          · repeat' (apply sw; (apply dh; (apply af tab; exact rfl; (focus (conv => lhs; whnf); try exact rfl); exact rfl; (exact (rfl : _ = 1)))); exact rfl; exact rfl)
          · rfl
        · intro a _ _
          show StepO _ _ _ _ _ _ (σ ++ _) (σ ++ _) _ _
          apply uj (ws' := [(_, _)])
          · repeat' (apply sw; (apply gm; (apply aj tab; exact rfl; exact rfl; exact rfl; (focus (conv => lhs; whnf; arg 1; whnf; arg 2; whnf); try skip); (exact trivial))); exact rfl; exact rfl)
          · rfl
        · intro a _ _
          show StepO _ _ _ _ _ _ (σ ++ _) (σ ++ _) _ _
          apply uj (ws' := [(_, _)])
          · repeat' (apply sw; (apply jg; (apply jf (tt := tt); (focus (conv => lhs; whnf); try exact rfl))); exact rfl; exact rfl)
          · rfl
        · intro a _ _
          show StepO _ _ _ _ _ _ (σ ++ _) (σ ++ _) _ _
          apply uj (ws' := [(_, _)])
          · repeat' (apply sw; (apply gm; (apply aj tab; exact rfl; exact rfl; exact rfl; (focus (conv => lhs; whnf; arg 1; whnf; arg 2; whnf); try skip); (exact nlb rfl))); exact rfl; exact rfl)
          · rfl
        · intro a _ _
          show StepO _ _ _ _ _ _ (σ ++ _) (σ ++ _) _ _
          apply uj (ws' := [(_, _)])
          · repeat' (first | (apply bn; (first | (apply mi; (apply mq .ow tab; exact rfl; (focus ((repeat (apply mh; (focus (conv => lhs; whnf); try exact rfl))); exact nk)); exact rfl; exact rfl; exact rfl; exact rfl; exact rfl; exact rfl)) | (apply ak))) | (apply vv; intro env0) | (apply eg3; exact rfl; exact rfl; exact rfl))
          · rfl
      · refine al0 fun env0 => ?_
        refine aar (tt := tt) aik (hC _) rfl rfl rfl rfl rfl ?_
        rintro r σ' (⟨he, _⟩ | ⟨cp, hcp, rfl, rfl⟩)
        · exact absurd he hx
        · exact ak ⟨rfl, cp, hcp, rfl, rfl⟩
      · intro cp hcp
        refine ⟨?_, rfl, ?_, ?_⟩
        · refine yh rfl rfl ?_ (yh rfl rfl ?_ (afa rfl rfl (yh rfl rfl ?_ (yh rfl rfl ?_ (yh rfl rfl ?_ (aou (b := 1) rfl rfl ?_ akb))))))
          · intro a ha hs
            obtain rfl | rfl | rfl : a = 0 ∨ a = 1 ∨ a = 2 := by have : a ≤ 2 := ha; omega
            · show StepO _ _ _ _ _ _ (σ ++ _) (σ ++ _) _ _
              apply uj (ws' := [(_, _)])
              · repeat' (apply sw; (apply dh; (apply af tab; exact rfl; (focus (conv => lhs; whnf); try exact rfl); exact rfl; (exact (rfl : _ = 1)))); exact rfl; exact rfl)
              · rfl
            · exact absurd hs (by decide +kernel)
            · exact absurd hs (by decide +kernel)
          · intro a ha hs
            obtain rfl | rfl | rfl : a = 0 ∨ a = 1 ∨ a = 2 := by have : a ≤ 2 := ha; omega
            · show StepO _ _ _ _ _ _ (σ ++ _) (σ ++ _) _ _
              apply uj (ws' := [(_, _)])
              · repeat' (apply sw; (apply gm; (apply aj tab; exact rfl; exact rfl; exact rfl; (focus (conv => lhs; whnf; arg 1; whnf; arg 2; whnf); try skip); (exact trivial))); exact rfl; exact rfl)
              · rfl
            · exact absurd hs (by decide +kernel)
            · exact absurd hs (by decide +kernel)
          · intro a ha hs
            obtain rfl | rfl | rfl : a = 0 ∨ a = 1 ∨ a = 2 := by have : a ≤ 2 := ha; omega
            · show StepO _ _ _ _ _ _ (σ ++ _) (σ ++ _) _ _
              apply uj (ws' := [(_, _)])
              · repeat' (apply sw; (apply jg; (apply jf (tt := tt); (focus (conv => lhs; whnf); try exact rfl))); exact rfl; exact rfl)
              · rfl
            · show StepO _ _ _ _ _ _ (σ ++ _) (σ ++ _) _ _
              apply uj (ws' := [(_, _)])
              · repeat' (apply sw; (apply jg; (apply jf (tt := tt); (focus (conv => lhs; whnf); try exact rfl))); exact rfl; exact rfl)
              · rfl
            · exact absurd hs (by decide +kernel)
          · intro a ha hs
            obtain rfl | rfl | rfl : a = 0 ∨ a = 1 ∨ a = 2 := by have : a ≤ 2 := ha; omega
            · show StepO _ _ _ _ _ _ (σ ++ _) (σ ++ _) _ _
              apply uj (ws' := [(_, _)])
              · repeat' (apply sw; (apply gm; (apply aj tab; exact rfl; exact rfl; exact rfl; (focus (conv => lhs; whnf; arg 1; whnf; arg 2; whnf); try skip); (exact nlb rfl))); exact rfl; exact rfl)
              · rfl
            · show StepO _ _ _ _ _ _ (σ ++ _) (σ ++ _) _ _
              apply uj (ws' := [(_, _)])
              · repeat' (apply sw; (apply gm; (apply aj tab; exact rfl; exact rfl; exact rfl; (focus (conv => lhs; whnf; arg 1; whnf; arg 2; whnf); try skip); (exact nlb rfl))); exact rfl; exact rfl)
              · rfl
            · exact absurd hs (by decide +kernel)
          · intro a ha hs
            obtain rfl | rfl | rfl : a = 0 ∨ a = 1 ∨ a = 2 := by have : a ≤ 2 := ha; omega
            · show StepO _ _ _ _ _ _ (σ ++ _) (σ ++ _) _ _
              apply uj (ws' := [(_, _)])
              · repeat' (first | (apply bn; (first | (apply mi; (apply mq .ow tab; exact rfl; (focus ((repeat (apply mh; (focus (conv => lhs; whnf); try exact rfl))); exact nk)); exact rfl; exact rfl; exact rfl; exact rfl; exact rfl; exact rfl)) | (apply ak))) | (apply vv; intro env0) | (apply eg3; exact rfl; exact rfl; exact rfl))
              · rfl
            · show StepO _ _ _ _ _ _ (σ ++ _) (σ ++ _) _ _
              apply uj (ws' := [(_, _)])
              · repeat' (first | (apply bn; (first | (apply mi; (apply mq .ow tab; exact rfl; (focus ((repeat (apply mh; (focus (conv => lhs; whnf); try exact rfl))); exact nk)); exact rfl; exact rfl; exact rfl; exact rfl; exact rfl; exact rfl)) | (apply ak))) | (apply vv; intro env0) | (apply eg3; exact rfl; exact rfl; exact rfl))
              · rfl
            · exact absurd hs (by decide +kernel)
          · show StepO _ _ _ _ _ _ (σ ++ _) (σ ++ _) _ _
            refine vv fun env0 => ?_
            refine aar (tt := tt) ao5 (ahy x.names q (abh c) (σ.length + 8) cp hle hnl hcp _ (wo 8)) rfl rfl rfl rfl rfl ?_
            rintro r σ' ⟨rfl, rfl⟩
            refine zk (abr (τ := σ) 8 .gone) ?_
            exact ak (eg3 rfl rfl rfl)
        · intro i hi hs
          obtain rfl | rfl | rfl | rfl | rfl | rfl | rfl : i = 0 ∨ i = 1 ∨ i = 2 ∨ i = 3 ∨ i = 4 ∨ i = 5 ∨ i = 6 := by omega
          · rfl
          · rfl
          · exact absurd hs (by decide +kernel)
          · rfl
          · rfl
          · rfl
          · exact absurd hs (by decide +kernel)
        · repeat' (first | (apply bn; (first | (apply fq; (apply aa; (apply aj tab; exact rfl; exact rfl; exact rfl; (focus (conv => lhs; whnf; arg 1; whnf; arg 2; whnf); try skip); (exact nlb rfl)); (intro c h; cases h); exact rfl)) | (apply cu; (apply aa; (apply af tab; exact rfl; (focus (conv => lhs; whnf); try exact rfl); exact rfl; (exact (rfl : _ = 1))); (intro c h; cases h); exact rfl)) | (apply gq; (apply dz tab; exact rfl; exact rfl; exact rfl; exact rfl; exact rfl; exact rfl; exact rfl; exact rfl)) | (apply pq; (apply aa; (apply gy tab; exact rfl; (focus (conv => lhs; whnf; arg 1; whnf; arg 2; whnf); try skip)); (intro c h; cases h); exact rfl)) | (apply ak))) | (apply bq; (first | (apply bg) | (apply ah) | (apply dn))) | (apply bf))
          (change gu _ _ _ _ _ _ _; apply fu; (exact .inr rfl); (focus (repeat' (first | (apply mr; exact rfl; exact rfl; exact rfl; (focus (conv => lhs; whnf; arg 1; whnf; arg 2; whnf); try skip); (exact nlb rfl)) | exact iq))); exact rfl; (exact rfl); exact Nat.le_refl _; (focus (repeat' (first | exact trivial | refine ⟨?_, ?_⟩))); exact hso)
          exact ⟨by rw [hN]; rfl, rfl⟩
    · rw [if_neg hgt] at hN
      have d1 : decide (qc (gtN c.name) x.names < 0) = false := decide_eq_false hgt
      have hle : (qc (gtN c.name) x.names).toNat ≤ x.names.length := Nat.le_of_lt (x9 (by omega))
      have hq0 : 0 ≤ qc (gtN c.name) x.names := by omega
      generalize qc (gtN c.name) x.names = qi at *
      obtain ⟨q, rfl⟩ := Int.eq_ofNat_of_zero_le hq0
      rw [Int.toNat_natCast] at hN hle
      repeat' (first | (apply bn; (first | (apply bv; (apply bu (tt := tt); (focus (conv => lhs; whnf); try exact rfl); exact rfl)) | (apply ai; (apply az (tt := tt); (focus (conv => lhs; whnf); try exact rfl); exact rfl)) | (apply dw; (apply di true tab; (focus (conv => lhs; whnf; arg 1; whnf; arg 2; whnf); try exact rfl); (exact trivial); exact rfl)) | (apply iw; (apply iy (tt := tt); (focus (conv => lhs; whnf; arg 1; whnf; arg 2; whnf); try exact rfl); (exact trivial); exact rfl)) | (apply gq; (apply dz tab; exact rfl; exact rfl; exact rfl; exact rfl; exact rfl; exact rfl; exact rfl; exact rfl)) | (apply je; (apply ik tab; exact rfl; exact rfl; (exact (rfl : _ = 7)); exact rfl)) | (apply ak))) | (apply bq; (first | (apply bg) | (apply ah) | (apply dm; exact rfl; (exact rfl)) | (apply gz))) | (apply bf))
      refine ahs (α := Nat) (k := 7) (j := 2) (j2 := 6) (keys := [[119], [120], [121], [122], [123], [124], [125]]) (R := fun cp => x.names.length ≤ cp) (wsj := fun cp => [(121, .xsl (σ.length + 8) 0 5 x.names.length cp)]) (bx := fun cp => .cells (flat (x.names.map nm) ++ room ((cp - x.names.length) * 5)))
        (wss0 := [[(119, .ptr (σ.length + 0) 1)], [(120, .sl .sh 5 (x.names.map nm))], [(121, .dead)], [(122, .int .i64 (q : Int))], [(123, nm (abh c))], [(124, .sl .ow 5 [nm (abh c)])], [(125, .dead)]])
        (wss := fun cp => [[(119, .ptr (σ.length + 0) 1)], [(120, .sl .sh 5 (x.names.map nm))], [(121, .xsl (σ.length + 8) 0 5 x.names.length cp)], [(122, .int .i64 (q : Int))], [(123, nm (abh c))], [(124, .sl .ow 5 [nm (abh c)])], [(125, .sl .sh 5 ((aby x.names q (abh c)).map nm))]])
        mixed (by decide +kernel) (by decide +kernel) rfl rfl ?_ ?_ ?_
      · refine yh rfl rfl ?_ (yh rfl rfl ?_ (afa rfl (by decide +kernel) (yh rfl rfl ?_ (yh rfl rfl ?_ (yh rfl rfl ?_ (afa rfl (by decide +kernel) akb))))))
        · intro a _ _
          show StepO _ _ _ _ _ _ (σ ++ _) (σ ++ _) _ _
          apply uj (ws' := [(_, _)])
          · repeat' (apply sw; (apply dh; (apply af tab; exact rfl; (focus (conv => lhs; whnf); try exact rfl); exact rfl; (exact (rfl : _ = 1)))); exact rfl; exact rfl)
          · rfl
        · intro a _ _
          show StepO _ _ _ _ _ _ (σ ++ _) (σ ++ _) _ _
          apply uj (ws' := [(_, _)])
          · repeat' (apply sw; (apply gm; (apply aj tab; exact rfl; exact rfl; exact rfl; (focus (conv => lhs; whnf; arg 1; whnf; arg 2; whnf); try skip); (exact trivial))); exact rfl; exact rfl)
          · rfl
        · intro a _ _
          show StepO _ _ _ _ _ _ (σ ++ _) (σ ++ _) _ _
          apply uj (ws' := [(_, _)])
          · repeat' (apply sw; (apply jg; (apply jf (tt := tt); (focus (conv => lhs; whnf); try exact rfl))); exact rfl; exact rfl)
          · rfl
        · intro a _ _
          show StepO _ _ _ _ _ _ (σ ++ _) (σ ++ _) _ _
          apply uj (ws' := [(_, _)])
          · repeat' (apply sw; (apply gm; (apply aj tab; exact rfl; exact rfl; exact rfl; (focus (conv => lhs; whnf; arg 1; whnf; arg 2; whnf); try skip); (exact nlb rfl))); exact rfl; exact rfl)
          · rfl
        · intro a _ _
          show StepO _ _ _ _ _ _ (σ ++ _) (σ ++ _) _ _
          apply uj (ws' := [(_, _)])
          · repeat' (first | (apply bn; (first | (apply mi; (apply mq .ow tab; exact rfl; (focus ((repeat (apply mh; (focus (conv => lhs; whnf); try exact rfl))); exact nk)); exact rfl; exact rfl; exact rfl; exact rfl; exact rfl; exact rfl)) | (apply ak))) | (apply vv; intro env0) | (apply eg3; exact rfl; exact rfl; exact rfl))
          · rfl
      · refine al0 fun env0 => ?_
        refine aar (tt := tt) aik (hC _) rfl rfl rfl rfl rfl ?_
        rintro r σ' (⟨he, _⟩ | ⟨cp, hcp, rfl, rfl⟩)
        · exact absurd he hx
        · exact ak ⟨rfl, cp, hcp, rfl, rfl⟩
      · intro cp hcp
        refine ⟨?_, rfl, ?_, ?_⟩
        · refine yh rfl rfl ?_ (yh rfl rfl ?_ (afa rfl rfl (yh rfl rfl ?_ (yh rfl rfl ?_ (yh rfl rfl ?_ (aou (b := 1) rfl rfl ?_ akb))))))
          · intro a ha hs
            obtain rfl | rfl | rfl : a = 0 ∨ a = 1 ∨ a = 2 := by have : a ≤ 2 := ha; omega
            · show StepO _ _ _ _ _ _ (σ ++ _) (σ ++ _) _ _
              apply uj (ws' := [(_, _)])
              · repeat' (apply sw; (apply dh; (apply af tab; exact rfl; (focus (conv => lhs; whnf); try exact rfl); exact rfl; (exact (rfl : _ = 1)))); exact rfl; exact rfl)
              · rfl
            · exact absurd hs (by decide +kernel)
            · exact absurd hs (by decide +kernel)
          · intro a ha hs
            obtain rfl | rfl | rfl : a = 0 ∨ a = 1 ∨ a = 2 := by have : a ≤ 2 := ha; omega
            · show StepO _ _ _ _ _ _ (σ ++ _) (σ ++ _) _ _
              apply uj (ws' := [(_, _)])
              · repeat' (apply sw; (apply gm; (apply aj tab; exact rfl; exact rfl; exact rfl; (focus (conv => lhs; whnf; arg 1; whnf; arg 2; whnf); try skip); (exact trivial))); exact rfl; exact rfl)
              · rfl
            · exact absurd hs (by decide +kernel)
            · exact absurd hs (by decide +kernel)
          · intro a ha hs
            obtain rfl | rfl | rfl : a = 0 ∨ a = 1 ∨ a = 2 := by have : a ≤ 2 := ha; omega
            · show StepO _ _ _ _ _ _ (σ ++ _) (σ ++ _) _ _
              apply uj (ws' := [(_, _)])
              · repeat' (apply sw; (apply jg; (apply jf (tt := tt); (focus (conv => lhs; whnf); try exact rfl))); exact rfl; exact rfl)
              · rfl
            · show StepO _ _ _ _ _ _ (σ ++ _) (σ ++ _) _ _
              apply uj (ws' := [(_, _)])
              · repeat' (apply sw; (apply jg; (apply jf (tt := tt); (focus (conv => lhs; whnf); try exact rfl))); exact rfl; exact rfl)
              · rfl
            · exact absurd hs (by decide +kernel)
          · intro a ha hs
            obtain rfl | rfl | rfl : a = 0 ∨ a = 1 ∨ a = 2 := by have : a ≤ 2 := ha; omega
            · show StepO _ _ _ _ _ _ (σ ++ _) (σ ++ _) _ _
              apply uj (ws' := [(_, _)])
              · repeat' (apply sw; (apply gm; (apply aj tab; exact rfl; exact rfl; exact rfl; (focus (conv => lhs; whnf; arg 1; whnf; arg 2; whnf); try skip); (exact nlb rfl))); exact rfl; exact rfl)
              · rfl
            · show StepO _ _ _ _ _ _ (σ ++ _) (σ ++ _) _ _
              apply uj (ws' := [(_, _)])
              · repeat' (apply sw; (apply gm; (apply aj tab; exact rfl; exact rfl; exact rfl; (focus (conv => lhs; whnf; arg 1; whnf; arg 2; whnf); try skip); (exact nlb rfl))); exact rfl; exact rfl)
              · rfl
            · exact absurd hs (by decide +kernel)
          · intro a ha hs
            obtain rfl | rfl | rfl : a = 0 ∨ a = 1 ∨ a = 2 := by have : a ≤ 2 := ha; omega
            · show StepO _ _ _ _ _ _ (σ ++ _) (σ ++ _) _ _
              apply uj (ws' := [(_, _)])
              · repeat' (first | (apply bn; (first | (apply mi; (apply mq .ow tab; exact rfl; (focus ((repeat (apply mh; (focus (conv => lhs; whnf); try exact rfl))); exact nk)); exact rfl; exact rfl; exact rfl; exact rfl; exact rfl; exact rfl)) | (apply ak))) | (apply vv; intro env0) | (apply eg3; exact rfl; exact rfl; exact rfl))
              · rfl
            · show StepO _ _ _ _ _ _ (σ ++ _) (σ ++ _) _ _
              apply uj (ws' := [(_, _)])
              · repeat' (first | (apply bn; (first | (apply mi; (apply mq .ow tab; exact rfl; (focus ((repeat (apply mh; (focus (conv => lhs; whnf); try exact rfl))); exact nk)); exact rfl; exact rfl; exact rfl; exact rfl; exact rfl; exact rfl)) | (apply ak))) | (apply vv; intro env0) | (apply eg3; exact rfl; exact rfl; exact rfl))
              · rfl
            · exact absurd hs (by decide +kernel)
          · show StepO _ _ _ _ _ _ (σ ++ _) (σ ++ _) _ _
            refine vv fun env0 => ?_
            refine aar (tt := tt) ao5 (ahy x.names q (abh c) (σ.length + 8) cp hle hnl hcp _ (wo 8)) rfl rfl rfl rfl rfl ?_
            rintro r σ' ⟨rfl, rfl⟩
            refine zk (abr (τ := σ) 8 .gone) ?_
            exact ak (eg3 rfl rfl rfl)
        · intro i hi hs
          obtain rfl | rfl | rfl | rfl | rfl | rfl | rfl : i = 0 ∨ i = 1 ∨ i = 2 ∨ i = 3 ∨ i = 4 ∨ i = 5 ∨ i = 6 := by omega
          · rfl
          · rfl
          · exact absurd hs (by decide +kernel)
          · rfl
          · rfl
          · rfl
          · exact absurd hs (by decide +kernel)
        · repeat' (first | (apply bn; (first | (apply fq; (apply aa; (apply aj tab; exact rfl; exact rfl; exact rfl; (focus (conv => lhs; whnf; arg 1; whnf; arg 2; whnf); try skip); (exact nlb rfl)); (intro c h; cases h); exact rfl)) | (apply cu; (apply aa; (apply af tab; exact rfl; (focus (conv => lhs; whnf); try exact rfl); exact rfl; (exact (rfl : _ = 1))); (intro c h; cases h); exact rfl)) | (apply gq; (apply dz tab; exact rfl; exact rfl; exact rfl; exact rfl; exact rfl; exact rfl; exact rfl; exact rfl)) | (apply pq; (apply aa; (apply gy tab; exact rfl; (focus (conv => lhs; whnf; arg 1; whnf; arg 2; whnf); try skip)); (intro c h; cases h); exact rfl)) | (apply ak))) | (apply bq; (first | (apply bg) | (apply ah) | (apply dn))) | (apply bf))
          (change gu _ _ _ _ _ _ _; apply fu; (exact .inr rfl); (focus (repeat' (first | (apply mr; exact rfl; exact rfl; exact rfl; (focus (conv => lhs; whnf; arg 1; whnf; arg 2; whnf); try skip); (exact nlb rfl)) | exact iq))); exact rfl; (exact rfl); exact Nat.le_refl _; (focus (repeat' (first | exact trivial | refine ⟨?_, ?_⟩))); exact hso)
          exact ⟨by rw [hN]; rfl, rfl⟩
  · exact ag (wo _)
  · rfl
end Go.Proofs.Ytbpjaiemlkcccaa.Pv
end
