import Derived.Test.YtbpjaiemlkcccaaLibK0
import Derived.Test.YtbpjaiemlkcccaaLibImpA
set_option linter.unusedVariables false
set_option linter.unusedSimpArgs false
section
/- A row in which one stands in a place, or behind all. -/
namespace Go.Proofs.Ytbpjaiemlkcccaa.Pv
open Go
set_option maxRecDepth 100000
set_option maxHeartbeats 2000000
theorem amu (xs : List (Ss)) (hl : xs.length ≤ 1048576) (σ : Sto) : jo Try.prog 82 [.sl .sh 8 (xs.map ss)] σ fun x σ' =>
    (xs = [] ∧ x = .xsl 0 0 8 0 0 ∧ σ' = σ) ∨ ∃ c, xs.length ≤ c ∧ x = .xsl σ.length 0 8 xs.length c ∧ σ' = σ ++ [.cells (flat (xs.map ss) ++ room ((c - xs.length) * 8))] := by
  refine ny tab Try.func82 rfl (nlb rfl) (by decide) fun hso => ?_
  repeat' (first | (apply bn; (first | (apply bv; (apply bu (tt := tt); (focus (conv => lhs; whnf); try exact rfl); exact rfl)) | (apply ai; (apply aa9 (tt := tt); exact rfl; exact rfl)) | (apply ak))) | (apply bq; (first | (apply bg) | (apply ah))) | (apply bf))
  refine aa4 (tt := tt) tab rfl rfl rfl ?_
  intro b hb
  cases b
  · repeat' (first | (apply bn; (first | (apply bv; (apply bu (tt := tt); (focus (conv => lhs; whnf); try exact rfl); exact rfl)) | (apply mi; (apply ac2 tab; exact rfl; exact rfl)) | (apply ak))) | (apply bq; (first | (apply bg) | (apply ah) | (apply dm; exact rfl; (exact rfl)) | (apply gz))) | (apply bf))
    by_cases hx : xs = []
    · subst hx
      refine acw tab rfl rfl rfl rfl rfl rfl (.sl _) rfl ?_
      repeat' (first | (apply bn; (first | (apply ai; (apply az (tt := tt); (focus (conv => lhs; whnf); try exact rfl); exact rfl)) | (apply ak))) | (apply bq; (apply dn)) | (apply bf))
      (change gu _ _ _ _ _ _ _; apply fu; (exact .inr rfl); (focus (repeat' (first | (apply lc; (focus (conv => lhs; whnf); try exact rfl); (exact Wk.same _)) | exact iq))); exact rfl; (exact (List.append_nil _).symm); exact Nat.le_refl _; (focus (repeat' (first | exact trivial | exact .inl rfl | refine ⟨?_, ?_⟩))); exact hso)
      exact .inl ⟨rfl, rfl, rfl⟩
    · refine ab7 tab rfl rfl rfl rfl rfl (.none 0 0 0) rfl (.sl _) ?_ ?_ rfl ?_
      · simp; exact List.length_pos_iff.2 hx
      · exact ac8 rfl (by simp; omega)
      intro c hc
      rw [Nat.zero_add, List.length_map] at *
      repeat' (first | (apply bn; (first | (apply ai; (apply az (tt := tt); (focus (conv => lhs; whnf); try exact rfl); exact rfl)) | (apply ak))) | (apply bq; (apply dn)) | (apply bf))
      (change gu _ _ _ _ _ _ _; apply fu (ex := []); (exact .inr rfl); (focus (repeat' (first | (apply lc; (focus (conv => lhs; whnf); try exact rfl); (exact Wk.same _)) | exact iq))); exact rfl; exact (List.append_nil _).symm; (rw [List.length_append]; exact Nat.le_add_right _ _); (focus (repeat' (first | exact trivial | exact .inr (by simp) | refine ⟨?_, ?_⟩))))
      · exact adv hso (agp (f := ss) (fun _ => rfl) _ _ _)
      · exact .inr ⟨c, hc, rfl, rfl⟩
  · have hx : xs = [] := by simpa using hb rfl
    subst hx
    repeat' (first | (apply bn; (first | (apply ai; (apply aa9 (tt := tt); exact rfl; exact rfl)) | (apply ak))) | (apply bq; (first | (apply bg) | (apply ah) | (apply df; exact rfl; (exact rfl)) | (apply dn))) | (apply bf) | (apply lq))
    (change gu _ _ _ _ _ _ _; apply fu; (exact .inr rfl); (focus (repeat' (first | (apply lc; (focus (conv => lhs; whnf); try exact rfl); (exact Wk.same _)) | exact iq))); exact rfl; (exact (List.append_nil _).symm); exact Nat.le_refl _; (focus (repeat' (first | exact trivial | exact .inl rfl | refine ⟨?_, ?_⟩))); exact hso)
    exact .inl ⟨rfl, rfl, rfl⟩
theorem amg (xs : List (Ss)) (hl : xs.length ≤ 1048576) (σ : Sto) : jo Try.prog 82 [.sl .sh 8 (xs.map ss)] σ fun x σ' => x = .sl .ow 8 (xs.map ss) ∧ σ' = σ := by
  refine ny tab Try.func82 rfl (nlb rfl) (by decide) fun hso => ?_
  repeat' (first | (apply bn; (first | (apply bv; (apply bu (tt := tt); (focus (conv => lhs; whnf); try exact rfl); exact rfl)) | (apply ai; (apply qx (tt := tt); exact rfl; exact ltn rfl)) | (apply ak))) | (apply bq; (first | (apply bg) | (apply ah))) | (apply bf))
  refine aa4 (tt := tt) tab rfl rfl rfl ?_
  intro b hb
  cases b
  · repeat' (first | (apply bn; (first | (apply bv; (apply bu (tt := tt); (focus (conv => lhs; whnf); try exact rfl); exact rfl)) | (apply ai; (apply qh (.inl rfl); (focus (conv => lhs; whnf); try exact rfl); exact rfl; exact ltn rfl)) | (apply jr; (apply qf tab; (focus (conv => lhs; whnf); try exact rfl); exact rfl; exact rfl; exact rfl; exact rfl; exact rfl; (focus (conv => lhs; whnf); try exact rfl); exact rfl; (simp only [List.length_map, List.length_append, List.length_cons, List.length_nil, List.length_take]; omega); (exact qw _ (fun _ => rfl) _); exact rfl)) | (apply mi; (apply mq .ow tab; exact rfl; (focus ((repeat (apply mh; (focus (conv => lhs; whnf); try exact rfl))); exact nk)); exact rfl; exact rfl; exact rfl; exact rfl; exact rfl; exact rfl)) | (apply ak))) | (apply bq; (first | (apply bg) | (apply ah) | (apply dm; exact rfl; (exact rfl)) | (apply gz) | (apply dn))) | (apply bf))
    (change gu _ _ _ _ _ _ _; apply aaq; (exact .inr rfl); exact rfl; (focus (conv => lhs; whnf); try exact rfl); exact Wk.same _; exact rfl; exact (List.append_nil _).symm; exact Nat.le_refl _; exact trivial; exact hso)
    exact ⟨rfl, rfl⟩
  · have hx : xs = [] := by simpa using hb rfl
    subst hx
    repeat' (first | (apply bn; (first | (apply ai; (apply qx (tt := tt); exact rfl; exact ltn rfl)) | (apply ak))) | (apply bq; (first | (apply bg) | (apply ah) | (apply df; exact rfl; (exact rfl)) | (apply dn))) | (apply bf) | (apply lq))
    (change gu _ _ _ _ _ _ _; apply aaq; (exact .inr rfl); exact rfl; (focus (conv => lhs; whnf); try exact rfl); exact Wk.same _; exact rfl; exact (List.append_nil _).symm; exact Nat.le_refl _; exact trivial; exact hso)
    exact ⟨rfl, rfl⟩
theorem aqn (xs : List (Ss)) (i : Int) (v : Ss) (hl : xs.length ≤ 1048576) (hi : i < 0 ∨ i.toNat < xs.length) (σ : Sto) : jo Try.prog 63 [.sl .sh 8 (xs.map ss), .int .i64 i, ss v] σ fun r σ' => r = .sl .sh 8 ((ql xs i v).map ss) ∧ σ' = σ := by
  refine ny tab Try.func63 rfl (nlb rfl) (by decide) fun hso => oh ?_
  by_cases hn : i < 0
  · have c1 : decide (i < 0) = true := decide_eq_true hn
    have e : (ql xs i v).map ss = xs.map ss ++ [ss v] := by rw [ql, if_pos hn, List.map_append]; rfl
    rw [e]
    repeat' (first | (apply bn; (first | (apply bv; (first | (apply qh (d := 11) (.inr rfl); (focus (conv => lhs; whnf); try exact rfl); exact rfl; exact ltn rfl) | (apply bu (tt := tt); (focus (conv => lhs; whnf); try exact rfl); exact rfl))) | (apply ai; (first | (apply qx (tt := tt); exact rfl; exact ltn rfl) | (apply qh (.inl rfl); (focus (conv => lhs; whnf); try exact rfl); exact rfl; exact ltn rfl))) | (apply ji; (refine cz (tt := tt) aui (amg _ ?_ _) rfl rfl rfl rfl rfl ?_; (assumption))) | (apply dw; (apply di true tab; (focus (conv => lhs; whnf; arg 1; whnf; arg 2; whnf); try exact rfl); (exact trivial); exact rfl)) | (apply fq; (apply aa; (apply aj tab; exact rfl; exact rfl; exact rfl; (focus (conv => lhs; whnf; arg 1; whnf; arg 2; whnf); try skip); (exact nlb rfl)); (intro c h; cases h); exact rfl)) | (apply jr; (apply qf tab; (focus (conv => lhs; whnf); try exact rfl); exact rfl; exact rfl; exact rfl; exact rfl; exact rfl; (focus (conv => lhs; whnf); try exact rfl); exact rfl; (simp only [List.length_map, List.length_append, List.length_cons, List.length_nil, List.length_take]; omega); (exact rfl); exact rfl)) | (apply mi; (apply mq .ow tab; exact rfl; (focus ((repeat (apply mh; (focus (conv => lhs; whnf); try exact rfl))); exact nk)); exact rfl; exact rfl; exact rfl; exact rfl; exact rfl; exact rfl)) | (apply lu; (apply kg (tt := tt); (focus (conv => lhs; whnf); try exact rfl); exact rfl; (exact (rfl : _ = 0)); exact rfl)) | (apply ak))) | (apply bq; (first | (apply bg) | (apply ah) | (apply df; exact rfl; (assumption)) | (apply dn))) | (apply bf) | (apply lq))
    (change gu _ _ _ _ _ _ _; apply fu; (exact .inr rfl); (focus (repeat' (first | (apply lc; (focus (conv => lhs; whnf); try exact rfl); (exact Wk.sh)) | exact iq))); exact rfl; (exact rfl); exact Nat.le_refl _; (focus (repeat' (first | exact trivial | refine ⟨?_, ?_⟩))); exact hso)
    exact ⟨rfl, rfl⟩
  · have c1 : decide (i < 0) = false := decide_eq_false hn
    have hlt : i.toNat < xs.length := by omega
    have h0 : 0 ≤ i := by omega
    have e : ql xs i v = xs.set i.toNat v := if_neg hn
    rw [e]
    have hC := amu xs hl (σ ++ [.cells (ss v).cells])
    simp only [List.length_append, List.length_cons, List.length_nil, List.append_assoc, List.cons_append, List.nil_append, Nat.zero_add, Nat.reduceAdd] at hC
    repeat' (first | (apply bn; (first | (apply bv; (apply bu (tt := tt); (focus (conv => lhs; whnf); try exact rfl); exact rfl)) | (apply ai; (apply qx (tt := tt); exact rfl; exact ltn rfl)) | (apply lu; (apply kg (tt := tt); (focus (conv => lhs; whnf); try exact rfl); exact rfl; (exact (rfl : _ = 0)); exact rfl)) | (apply ak))) | (apply bq; (first | (apply bg) | (apply ah))) | (apply bf))
    refine aar (tt := tt) aui hC rfl rfl rfl rfl rfl ?_
    rintro r σ' (⟨he, rfl, rfl⟩ | ⟨c, hc, rfl, rfl⟩)
    · subst he; exact absurd hlt (Nat.not_lt_zero _)
    · repeat' (first | (apply bn; (first | (apply bv; (apply bu (tt := tt); (focus (conv => lhs; whnf); try exact rfl); exact rfl)) | (apply ai; (apply az (tt := tt); (focus (conv => lhs; whnf); try exact rfl); exact rfl)) | (apply dw; (apply di true tab; (focus (conv => lhs; whnf; arg 1; whnf; arg 2; whnf); try exact rfl); (exact trivial); exact rfl)) | (apply fq; (apply aa; (apply aj tab; exact rfl; exact rfl; exact rfl; (focus (conv => lhs; whnf; arg 1; whnf; arg 2; whnf); try skip); (exact nlb rfl)); (intro c h; cases h); exact rfl)) | (apply j5; (apply qj tab (tI := 3); (focus (conv => lhs; whnf; arg 1; whnf; arg 2; whnf); try exact rfl); (refine ⟨rfl, ?_, ?_⟩ <;> omega); exact rfl)) | (apply ak))) | (apply bq; (first | (apply bg) | (apply ah) | (apply dm; exact rfl; (assumption)) | (apply gz))) | (apply bf))
      refine mg (k := 1) (v := v) ss tab rfl rfl rfl rfl (fun _ => rfl) rfl rfl rfl hlt ?_
      have hfr := abt (i := σ.length + 1) (cap := c) (es := (xs.set i.toNat v).map ss) (sz := 8) (fun e he => by obtain ⟨x, _, rfl⟩ := List.mem_map.1 he; rfl)
      rw [List.length_map, List.length_set] at hfr
      refine ac6 (k := 1) [(0, .sl .sh 8 ((xs.set i.toNat v).map ss))] [.cells (ss v).cells, .gone] rfl (aaz fun _ => rfl) ⟨hfr, trivial⟩ ⟨.inl rfl, .inl rfl, trivial⟩ ?_
      repeat' (first | (apply bn; (first | (apply bv; (apply bu (tt := tt); (focus (conv => lhs; whnf); try exact rfl); exact rfl)) | (apply ai; (apply az (tt := tt); (focus (conv => lhs; whnf); try exact rfl); exact rfl)) | (apply ak))) | (apply bq; (first | (apply bg) | (apply ah) | (apply dn))) | (apply bf))
      (change gu _ _ _ _ _ _ _; apply fu; (exact .inr rfl); (focus (repeat' (first | (apply lc; (focus (conv => lhs; whnf); try exact rfl); (exact Wk.same _)) | exact iq))); exact rfl; (exact rfl); exact Nat.le_refl _; (focus (repeat' (first | exact trivial | refine ⟨?_, ?_⟩))); exact hso)
      exact ⟨rfl, rfl⟩
theorem afg (xs : List (Nm)) (hl : xs.length ≤ 1048576) (σ : Sto) : jo Try.prog 92 [.sl .sh 5 (xs.map nm)] σ fun x σ' =>
    (xs = [] ∧ x = .xsl 0 0 5 0 0 ∧ σ' = σ) ∨ ∃ c, xs.length ≤ c ∧ x = .xsl σ.length 0 5 xs.length c ∧ σ' = σ ++ [.cells (flat (xs.map nm) ++ room ((c - xs.length) * 5))] := by
  refine ny tab Try.func92 rfl (nlb rfl) (by decide) fun hso => ?_
  repeat' (first | (apply bn; (first | (apply bv; (apply bu (tt := tt); (focus (conv => lhs; whnf); try exact rfl); exact rfl)) | (apply ai; (apply aa9 (tt := tt); exact rfl; exact rfl)) | (apply ak))) | (apply bq; (first | (apply bg) | (apply ah))) | (apply bf))
  refine aa4 (tt := tt) tab rfl rfl rfl ?_
  intro b hb
  cases b
  · repeat' (first | (apply bn; (first | (apply bv; (apply bu (tt := tt); (focus (conv => lhs; whnf); try exact rfl); exact rfl)) | (apply mi; (apply ac2 tab; exact rfl; exact rfl)) | (apply ak))) | (apply bq; (first | (apply bg) | (apply ah) | (apply dm; exact rfl; (exact rfl)) | (apply gz))) | (apply bf))
    by_cases hx : xs = []
    · subst hx
      refine acw tab rfl rfl rfl rfl rfl rfl (.sl _) rfl ?_
      repeat' (first | (apply bn; (first | (apply ai; (apply az (tt := tt); (focus (conv => lhs; whnf); try exact rfl); exact rfl)) | (apply ak))) | (apply bq; (apply dn)) | (apply bf))
      (change gu _ _ _ _ _ _ _; apply fu; (exact .inr rfl); (focus (repeat' (first | (apply lc; (focus (conv => lhs; whnf); try exact rfl); (exact Wk.same _)) | exact iq))); exact rfl; (exact (List.append_nil _).symm); exact Nat.le_refl _; (focus (repeat' (first | exact trivial | exact .inl rfl | refine ⟨?_, ?_⟩))); exact hso)
      exact .inl ⟨rfl, rfl, rfl⟩
    · refine ab7 tab rfl rfl rfl rfl rfl (.none 0 0 0) rfl (.sl _) ?_ ?_ rfl ?_
      · simp; exact List.length_pos_iff.2 hx
      · exact ac8 rfl (by simp; omega)
      intro c hc
      rw [Nat.zero_add, List.length_map] at *
      repeat' (first | (apply bn; (first | (apply ai; (apply az (tt := tt); (focus (conv => lhs; whnf); try exact rfl); exact rfl)) | (apply ak))) | (apply bq; (apply dn)) | (apply bf))
      (change gu _ _ _ _ _ _ _; apply fu (ex := []); (exact .inr rfl); (focus (repeat' (first | (apply lc; (focus (conv => lhs; whnf); try exact rfl); (exact Wk.same _)) | exact iq))); exact rfl; exact (List.append_nil _).symm; (rw [List.length_append]; exact Nat.le_add_right _ _); (focus (repeat' (first | exact trivial | exact .inr (by simp) | refine ⟨?_, ?_⟩))))
      · exact adv hso (agp (f := nm) (fun _ => rfl) _ _ _)
      · exact .inr ⟨c, hc, rfl, rfl⟩
  · have hx : xs = [] := by simpa using hb rfl
    subst hx
    repeat' (first | (apply bn; (first | (apply ai; (apply aa9 (tt := tt); exact rfl; exact rfl)) | (apply ak))) | (apply bq; (first | (apply bg) | (apply ah) | (apply df; exact rfl; (exact rfl)) | (apply dn))) | (apply bf) | (apply lq))
    (change gu _ _ _ _ _ _ _; apply fu; (exact .inr rfl); (focus (repeat' (first | (apply lc; (focus (conv => lhs; whnf); try exact rfl); (exact Wk.same _)) | exact iq))); exact rfl; (exact (List.append_nil _).symm); exact Nat.le_refl _; (focus (repeat' (first | exact trivial | exact .inl rfl | refine ⟨?_, ?_⟩))); exact hso)
    exact .inl ⟨rfl, rfl, rfl⟩
theorem al4 (xs : List (Nm)) (hl : xs.length ≤ 1048576) (σ : Sto) : jo Try.prog 92 [.sl .sh 5 (xs.map nm)] σ fun x σ' => x = .sl .ow 5 (xs.map nm) ∧ σ' = σ := by
  refine ny tab Try.func92 rfl (nlb rfl) (by decide) fun hso => ?_
  repeat' (first | (apply bn; (first | (apply bv; (apply bu (tt := tt); (focus (conv => lhs; whnf); try exact rfl); exact rfl)) | (apply ai; (apply qx (tt := tt); exact rfl; exact ltn rfl)) | (apply ak))) | (apply bq; (first | (apply bg) | (apply ah))) | (apply bf))
  refine aa4 (tt := tt) tab rfl rfl rfl ?_
  intro b hb
  cases b
  · repeat' (first | (apply bn; (first | (apply bv; (apply bu (tt := tt); (focus (conv => lhs; whnf); try exact rfl); exact rfl)) | (apply ai; (apply qh (.inl rfl); (focus (conv => lhs; whnf); try exact rfl); exact rfl; exact ltn rfl)) | (apply jr; (apply qf tab; (focus (conv => lhs; whnf); try exact rfl); exact rfl; exact rfl; exact rfl; exact rfl; exact rfl; (focus (conv => lhs; whnf); try exact rfl); exact rfl; (simp only [List.length_map, List.length_append, List.length_cons, List.length_nil, List.length_take]; omega); (exact qw _ (fun _ => rfl) _); exact rfl)) | (apply mi; (apply mq .ow tab; exact rfl; (focus ((repeat (apply mh; (focus (conv => lhs; whnf); try exact rfl))); exact nk)); exact rfl; exact rfl; exact rfl; exact rfl; exact rfl; exact rfl)) | (apply ak))) | (apply bq; (first | (apply bg) | (apply ah) | (apply dm; exact rfl; (exact rfl)) | (apply gz) | (apply dn))) | (apply bf))
    (change gu _ _ _ _ _ _ _; apply aaq; (exact .inr rfl); exact rfl; (focus (conv => lhs; whnf); try exact rfl); exact Wk.same _; exact rfl; exact (List.append_nil _).symm; exact Nat.le_refl _; exact trivial; exact hso)
    exact ⟨rfl, rfl⟩
  · have hx : xs = [] := by simpa using hb rfl
    subst hx
    repeat' (first | (apply bn; (first | (apply ai; (apply qx (tt := tt); exact rfl; exact ltn rfl)) | (apply ak))) | (apply bq; (first | (apply bg) | (apply ah) | (apply df; exact rfl; (exact rfl)) | (apply dn))) | (apply bf) | (apply lq))
    (change gu _ _ _ _ _ _ _; apply aaq; (exact .inr rfl); exact rfl; (focus (conv => lhs; whnf); try exact rfl); exact Wk.same _; exact rfl; exact (List.append_nil _).symm; exact Nat.le_refl _; exact trivial; exact hso)
    exact ⟨rfl, rfl⟩
theorem aq0 (xs : List (Nm)) (i : Int) (v : Nm) (hl : xs.length ≤ 1048576) (hi : i < 0 ∨ i.toNat < xs.length) (σ : Sto) : jo Try.prog 88 [.sl .sh 5 (xs.map nm), .int .i64 i, nm v] σ fun r σ' => r = .sl .sh 5 ((ql xs i v).map nm) ∧ σ' = σ := by
  refine ny tab Try.func88 rfl (nlb rfl) (by decide) fun hso => oh ?_
  by_cases hn : i < 0
  · have c1 : decide (i < 0) = true := decide_eq_true hn
    have e : (ql xs i v).map nm = xs.map nm ++ [nm v] := by rw [ql, if_pos hn, List.map_append]; rfl
    rw [e]
    repeat' (first | (apply bn; (first | (apply bv; (first | (apply qh (d := 11) (.inr rfl); (focus (conv => lhs; whnf); try exact rfl); exact rfl; exact ltn rfl) | (apply bu (tt := tt); (focus (conv => lhs; whnf); try exact rfl); exact rfl))) | (apply ai; (first | (apply qx (tt := tt); exact rfl; exact ltn rfl) | (apply qh (.inl rfl); (focus (conv => lhs; whnf); try exact rfl); exact rfl; exact ltn rfl))) | (apply ji; (refine cz (tt := tt) aik (al4 _ ?_ _) rfl rfl rfl rfl rfl ?_; (assumption))) | (apply dw; (apply di true tab; (focus (conv => lhs; whnf; arg 1; whnf; arg 2; whnf); try exact rfl); (exact trivial); exact rfl)) | (apply fq; (apply aa; (apply aj tab; exact rfl; exact rfl; exact rfl; (focus (conv => lhs; whnf; arg 1; whnf; arg 2; whnf); try skip); (exact nlb rfl)); (intro c h; cases h); exact rfl)) | (apply jr; (apply qf tab; (focus (conv => lhs; whnf); try exact rfl); exact rfl; exact rfl; exact rfl; exact rfl; exact rfl; (focus (conv => lhs; whnf); try exact rfl); exact rfl; (simp only [List.length_map, List.length_append, List.length_cons, List.length_nil, List.length_take]; omega); (exact rfl); exact rfl)) | (apply mi; (apply mq .ow tab; exact rfl; (focus ((repeat (apply mh; (focus (conv => lhs; whnf); try exact rfl))); exact nk)); exact rfl; exact rfl; exact rfl; exact rfl; exact rfl; exact rfl)) | (apply lu; (apply kg (tt := tt); (focus (conv => lhs; whnf); try exact rfl); exact rfl; (exact (rfl : _ = 0)); exact rfl)) | (apply ak))) | (apply bq; (first | (apply bg) | (apply ah) | (apply df; exact rfl; (assumption)) | (apply dn))) | (apply bf) | (apply lq))
    (change gu _ _ _ _ _ _ _; apply fu; (exact .inr rfl); (focus (repeat' (first | (apply lc; (focus (conv => lhs; whnf); try exact rfl); (exact Wk.sh)) | exact iq))); exact rfl; (exact rfl); exact Nat.le_refl _; (focus (repeat' (first | exact trivial | refine ⟨?_, ?_⟩))); exact hso)
    exact ⟨rfl, rfl⟩
  · have c1 : decide (i < 0) = false := decide_eq_false hn
    have hlt : i.toNat < xs.length := by omega
    have h0 : 0 ≤ i := by omega
    have e : ql xs i v = xs.set i.toNat v := if_neg hn
    rw [e]
    have hC := afg xs hl (σ ++ [.cells (nm v).cells])
    simp only [List.length_append, List.length_cons, List.length_nil, List.append_assoc, List.cons_append, List.nil_append, Nat.zero_add, Nat.reduceAdd] at hC
    repeat' (first | (apply bn; (first | (apply bv; (apply bu (tt := tt); (focus (conv => lhs; whnf); try exact rfl); exact rfl)) | (apply ai; (apply qx (tt := tt); exact rfl; exact ltn rfl)) | (apply lu; (apply kg (tt := tt); (focus (conv => lhs; whnf); try exact rfl); exact rfl; (exact (rfl : _ = 0)); exact rfl)) | (apply ak))) | (apply bq; (first | (apply bg) | (apply ah))) | (apply bf))
    refine aar (tt := tt) aik hC rfl rfl rfl rfl rfl ?_
    rintro r σ' (⟨he, rfl, rfl⟩ | ⟨c, hc, rfl, rfl⟩)
    · subst he; exact absurd hlt (Nat.not_lt_zero _)
    · repeat' (first | (apply bn; (first | (apply bv; (apply bu (tt := tt); (focus (conv => lhs; whnf); try exact rfl); exact rfl)) | (apply ai; (apply az (tt := tt); (focus (conv => lhs; whnf); try exact rfl); exact rfl)) | (apply dw; (apply di true tab; (focus (conv => lhs; whnf; arg 1; whnf; arg 2; whnf); try exact rfl); (exact trivial); exact rfl)) | (apply fq; (apply aa; (apply aj tab; exact rfl; exact rfl; exact rfl; (focus (conv => lhs; whnf; arg 1; whnf; arg 2; whnf); try skip); (exact nlb rfl)); (intro c h; cases h); exact rfl)) | (apply j5; (apply qj tab (tI := 3); (focus (conv => lhs; whnf; arg 1; whnf; arg 2; whnf); try exact rfl); (refine ⟨rfl, ?_, ?_⟩ <;> omega); exact rfl)) | (apply ak))) | (apply bq; (first | (apply bg) | (apply ah) | (apply dm; exact rfl; (assumption)) | (apply gz))) | (apply bf))
      refine mg (k := 1) (v := v) nm tab rfl rfl rfl rfl (fun _ => rfl) rfl rfl rfl hlt ?_
      have hfr := abt (i := σ.length + 1) (cap := c) (es := (xs.set i.toNat v).map nm) (sz := 5) (fun e he => by obtain ⟨x, _, rfl⟩ := List.mem_map.1 he; rfl)
      rw [List.length_map, List.length_set] at hfr
      refine ac6 (k := 1) [(0, .sl .sh 5 ((xs.set i.toNat v).map nm))] [.cells (nm v).cells, .gone] rfl (aaz fun _ => rfl) ⟨hfr, trivial⟩ ⟨.inl rfl, .inl rfl, trivial⟩ ?_
      repeat' (first | (apply bn; (first | (apply bv; (apply bu (tt := tt); (focus (conv => lhs; whnf); try exact rfl); exact rfl)) | (apply ai; (apply az (tt := tt); (focus (conv => lhs; whnf); try exact rfl); exact rfl)) | (apply ak))) | (apply bq; (first | (apply bg) | (apply ah) | (apply dn))) | (apply bf))
      (change gu _ _ _ _ _ _ _; apply fu; (exact .inr rfl); (focus (repeat' (first | (apply lc; (focus (conv => lhs; whnf); try exact rfl); (exact Wk.same _)) | exact iq))); exact rfl; (exact rfl); exact Nat.le_refl _; (focus (repeat' (first | exact trivial | refine ⟨?_, ?_⟩))); exact hso)
      exact ⟨rfl, rfl⟩
theorem al2 (xs : List (Vl)) (hl : xs.length ≤ 1048576) (σ : Sto) : jo Try.prog 98 [.sl .sh 9 (xs.map vl)] σ fun x σ' =>
    (xs = [] ∧ x = .xsl 0 0 9 0 0 ∧ σ' = σ) ∨ ∃ c, xs.length ≤ c ∧ x = .xsl σ.length 0 9 xs.length c ∧ σ' = σ ++ [.cells (flat (xs.map vl) ++ room ((c - xs.length) * 9))] := by
  refine ny tab Try.func98 rfl (nlb rfl) (by decide) fun hso => ?_
  repeat' (first | (apply bn; (first | (apply bv; (apply bu (tt := tt); (focus (conv => lhs; whnf); try exact rfl); exact rfl)) | (apply ai; (apply aa9 (tt := tt); exact rfl; exact rfl)) | (apply ak))) | (apply bq; (first | (apply bg) | (apply ah))) | (apply bf))
  refine aa4 (tt := tt) tab rfl rfl rfl ?_
  intro b hb
  cases b
  · repeat' (first | (apply bn; (first | (apply bv; (apply bu (tt := tt); (focus (conv => lhs; whnf); try exact rfl); exact rfl)) | (apply mi; (apply ac2 tab; exact rfl; exact rfl)) | (apply ak))) | (apply bq; (first | (apply bg) | (apply ah) | (apply dm; exact rfl; (exact rfl)) | (apply gz))) | (apply bf))
    by_cases hx : xs = []
    · subst hx
      refine acw tab rfl rfl rfl rfl rfl rfl (.sl _) rfl ?_
      repeat' (first | (apply bn; (first | (apply ai; (apply az (tt := tt); (focus (conv => lhs; whnf); try exact rfl); exact rfl)) | (apply ak))) | (apply bq; (apply dn)) | (apply bf))
      (change gu _ _ _ _ _ _ _; apply fu; (exact .inr rfl); (focus (repeat' (first | (apply lc; (focus (conv => lhs; whnf); try exact rfl); (exact Wk.same _)) | exact iq))); exact rfl; (exact (List.append_nil _).symm); exact Nat.le_refl _; (focus (repeat' (first | exact trivial | exact .inl rfl | refine ⟨?_, ?_⟩))); exact hso)
      exact .inl ⟨rfl, rfl, rfl⟩
    · refine ab7 tab rfl rfl rfl rfl rfl (.none 0 0 0) rfl (.sl _) ?_ ?_ rfl ?_
      · simp; exact List.length_pos_iff.2 hx
      · exact ac8 rfl (by simp; omega)
      intro c hc
      rw [Nat.zero_add, List.length_map] at *
      repeat' (first | (apply bn; (first | (apply ai; (apply az (tt := tt); (focus (conv => lhs; whnf); try exact rfl); exact rfl)) | (apply ak))) | (apply bq; (apply dn)) | (apply bf))
      (change gu _ _ _ _ _ _ _; apply fu (ex := []); (exact .inr rfl); (focus (repeat' (first | (apply lc; (focus (conv => lhs; whnf); try exact rfl); (exact Wk.same _)) | exact iq))); exact rfl; exact (List.append_nil _).symm; (rw [List.length_append]; exact Nat.le_add_right _ _); (focus (repeat' (first | exact trivial | exact .inr (by simp) | refine ⟨?_, ?_⟩))))
      · exact adv hso (agp (f := vl) (fun _ => rfl) _ _ _)
      · exact .inr ⟨c, hc, rfl, rfl⟩
  · have hx : xs = [] := by simpa using hb rfl
    subst hx
    repeat' (first | (apply bn; (first | (apply ai; (apply aa9 (tt := tt); exact rfl; exact rfl)) | (apply ak))) | (apply bq; (first | (apply bg) | (apply ah) | (apply df; exact rfl; (exact rfl)) | (apply dn))) | (apply bf) | (apply lq))
    (change gu _ _ _ _ _ _ _; apply fu; (exact .inr rfl); (focus (repeat' (first | (apply lc; (focus (conv => lhs; whnf); try exact rfl); (exact Wk.same _)) | exact iq))); exact rfl; (exact (List.append_nil _).symm); exact Nat.le_refl _; (focus (repeat' (first | exact trivial | exact .inl rfl | refine ⟨?_, ?_⟩))); exact hso)
    exact .inl ⟨rfl, rfl, rfl⟩
theorem ama (xs : List (Vl)) (hl : xs.length ≤ 1048576) (σ : Sto) : jo Try.prog 98 [.sl .sh 9 (xs.map vl)] σ fun x σ' => x = .sl .ow 9 (xs.map vl) ∧ σ' = σ := by
  refine ny tab Try.func98 rfl (nlb rfl) (by decide) fun hso => ?_
  repeat' (first | (apply bn; (first | (apply bv; (apply bu (tt := tt); (focus (conv => lhs; whnf); try exact rfl); exact rfl)) | (apply ai; (apply qx (tt := tt); exact rfl; exact ltn rfl)) | (apply ak))) | (apply bq; (first | (apply bg) | (apply ah))) | (apply bf))
  refine aa4 (tt := tt) tab rfl rfl rfl ?_
  intro b hb
  cases b
  · repeat' (first | (apply bn; (first | (apply bv; (apply bu (tt := tt); (focus (conv => lhs; whnf); try exact rfl); exact rfl)) | (apply ai; (apply qh (.inl rfl); (focus (conv => lhs; whnf); try exact rfl); exact rfl; exact ltn rfl)) | (apply jr; (apply qf tab; (focus (conv => lhs; whnf); try exact rfl); exact rfl; exact rfl; exact rfl; exact rfl; exact rfl; (focus (conv => lhs; whnf); try exact rfl); exact rfl; (simp only [List.length_map, List.length_append, List.length_cons, List.length_nil, List.length_take]; omega); (exact qw _ (fun _ => rfl) _); exact rfl)) | (apply mi; (apply mq .ow tab; exact rfl; (focus ((repeat (apply mh; (focus (conv => lhs; whnf); try exact rfl))); exact nk)); exact rfl; exact rfl; exact rfl; exact rfl; exact rfl; exact rfl)) | (apply ak))) | (apply bq; (first | (apply bg) | (apply ah) | (apply dm; exact rfl; (exact rfl)) | (apply gz) | (apply dn))) | (apply bf))
    (change gu _ _ _ _ _ _ _; apply aaq; (exact .inr rfl); exact rfl; (focus (conv => lhs; whnf); try exact rfl); exact Wk.same _; exact rfl; exact (List.append_nil _).symm; exact Nat.le_refl _; exact trivial; exact hso)
    exact ⟨rfl, rfl⟩
  · have hx : xs = [] := by simpa using hb rfl
    subst hx
    repeat' (first | (apply bn; (first | (apply ai; (apply qx (tt := tt); exact rfl; exact ltn rfl)) | (apply ak))) | (apply bq; (first | (apply bg) | (apply ah) | (apply df; exact rfl; (exact rfl)) | (apply dn))) | (apply bf) | (apply lq))
    (change gu _ _ _ _ _ _ _; apply aaq; (exact .inr rfl); exact rfl; (focus (conv => lhs; whnf); try exact rfl); exact Wk.same _; exact rfl; exact (List.append_nil _).symm; exact Nat.le_refl _; exact trivial; exact hso)
    exact ⟨rfl, rfl⟩
theorem aak (xs : List (Vl)) (i : Int) (v : Vl) (hl : xs.length ≤ 1048576) (hi : i < 0 ∨ i.toNat < xs.length) (σ : Sto) : jo Try.prog 84 [.sl .sh 9 (xs.map vl), .int .i64 i, vl v] σ fun r σ' => r = .sl .sh 9 ((ql xs i v).map vl) ∧ σ' = σ := by
  refine ny tab Try.func84 rfl (nlb rfl) (by decide) fun hso => oh ?_
  by_cases hn : i < 0
  · have c1 : decide (i < 0) = true := decide_eq_true hn
    have e : (ql xs i v).map vl = xs.map vl ++ [vl v] := by rw [ql, if_pos hn, List.map_append]; rfl
    rw [e]
    repeat' (first | (apply bn; (first | (apply bv; (first | (apply qh (d := 11) (.inr rfl); (focus (conv => lhs; whnf); try exact rfl); exact rfl; exact ltn rfl) | (apply bu (tt := tt); (focus (conv => lhs; whnf); try exact rfl); exact rfl))) | (apply ai; (first | (apply qx (tt := tt); exact rfl; exact ltn rfl) | (apply qh (.inl rfl); (focus (conv => lhs; whnf); try exact rfl); exact rfl; exact ltn rfl))) | (apply ji; (refine cz (tt := tt) auq (ama _ ?_ _) rfl rfl rfl rfl rfl ?_; (assumption))) | (apply dw; (apply di true tab; (focus (conv => lhs; whnf; arg 1; whnf; arg 2; whnf); try exact rfl); (exact trivial); exact rfl)) | (apply fq; (apply aa; (apply aj tab; exact rfl; exact rfl; exact rfl; (focus (conv => lhs; whnf; arg 1; whnf; arg 2; whnf); try skip); (exact nlb rfl)); (intro c h; cases h); exact rfl)) | (apply jr; (apply qf tab; (focus (conv => lhs; whnf); try exact rfl); exact rfl; exact rfl; exact rfl; exact rfl; exact rfl; (focus (conv => lhs; whnf); try exact rfl); exact rfl; (simp only [List.length_map, List.length_append, List.length_cons, List.length_nil, List.length_take]; omega); (exact rfl); exact rfl)) | (apply mi; (apply mq .ow tab; exact rfl; (focus ((repeat (apply mh; (focus (conv => lhs; whnf); try exact rfl))); exact nk)); exact rfl; exact rfl; exact rfl; exact rfl; exact rfl; exact rfl)) | (apply lu; (apply kg (tt := tt); (focus (conv => lhs; whnf); try exact rfl); exact rfl; (exact (rfl : _ = 0)); exact rfl)) | (apply ak))) | (apply bq; (first | (apply bg) | (apply ah) | (apply df; exact rfl; (assumption)) | (apply dn))) | (apply bf) | (apply lq))
    (change gu _ _ _ _ _ _ _; apply fu; (exact .inr rfl); (focus (repeat' (first | (apply lc; (focus (conv => lhs; whnf); try exact rfl); (exact Wk.sh)) | exact iq))); exact rfl; (exact rfl); exact Nat.le_refl _; (focus (repeat' (first | exact trivial | refine ⟨?_, ?_⟩))); exact hso)
    exact ⟨rfl, rfl⟩
  · have c1 : decide (i < 0) = false := decide_eq_false hn
    have hlt : i.toNat < xs.length := by omega
    have h0 : 0 ≤ i := by omega
    have e : ql xs i v = xs.set i.toNat v := if_neg hn
    rw [e]
    have hC := al2 xs hl (σ ++ [.cells (vl v).cells])
    simp only [List.length_append, List.length_cons, List.length_nil, List.append_assoc, List.cons_append, List.nil_append, Nat.zero_add, Nat.reduceAdd] at hC
    repeat' (first | (apply bn; (first | (apply bv; (apply bu (tt := tt); (focus (conv => lhs; whnf); try exact rfl); exact rfl)) | (apply ai; (apply qx (tt := tt); exact rfl; exact ltn rfl)) | (apply lu; (apply kg (tt := tt); (focus (conv => lhs; whnf); try exact rfl); exact rfl; (exact (rfl : _ = 0)); exact rfl)) | (apply ak))) | (apply bq; (first | (apply bg) | (apply ah))) | (apply bf))
    refine aar (tt := tt) auq hC rfl rfl rfl rfl rfl ?_
    rintro r σ' (⟨he, rfl, rfl⟩ | ⟨c, hc, rfl, rfl⟩)
    · subst he; exact absurd hlt (Nat.not_lt_zero _)
    · repeat' (first | (apply bn; (first | (apply bv; (apply bu (tt := tt); (focus (conv => lhs; whnf); try exact rfl); exact rfl)) | (apply ai; (apply az (tt := tt); (focus (conv => lhs; whnf); try exact rfl); exact rfl)) | (apply dw; (apply di true tab; (focus (conv => lhs; whnf; arg 1; whnf; arg 2; whnf); try exact rfl); (exact trivial); exact rfl)) | (apply fq; (apply aa; (apply aj tab; exact rfl; exact rfl; exact rfl; (focus (conv => lhs; whnf; arg 1; whnf; arg 2; whnf); try skip); (exact nlb rfl)); (intro c h; cases h); exact rfl)) | (apply j5; (apply qj tab (tI := 3); (focus (conv => lhs; whnf; arg 1; whnf; arg 2; whnf); try exact rfl); (refine ⟨rfl, ?_, ?_⟩ <;> omega); exact rfl)) | (apply ak))) | (apply bq; (first | (apply bg) | (apply ah) | (apply dm; exact rfl; (assumption)) | (apply gz))) | (apply bf))
      refine mg (k := 1) (v := v) vl tab rfl rfl rfl rfl (fun _ => rfl) rfl rfl rfl hlt ?_
      have hfr := abt (i := σ.length + 1) (cap := c) (es := (xs.set i.toNat v).map vl) (sz := 9) (fun e he => by obtain ⟨x, _, rfl⟩ := List.mem_map.1 he; rfl)
      rw [List.length_map, List.length_set] at hfr
      refine ac6 (k := 1) [(0, .sl .sh 9 ((xs.set i.toNat v).map vl))] [.cells (vl v).cells, .gone] rfl (aaz fun _ => rfl) ⟨hfr, trivial⟩ ⟨.inl rfl, .inl rfl, trivial⟩ ?_
      repeat' (first | (apply bn; (first | (apply bv; (apply bu (tt := tt); (focus (conv => lhs; whnf); try exact rfl); exact rfl)) | (apply ai; (apply az (tt := tt); (focus (conv => lhs; whnf); try exact rfl); exact rfl)) | (apply ak))) | (apply bq; (first | (apply bg) | (apply ah) | (apply dn))) | (apply bf))
      (change gu _ _ _ _ _ _ _; apply fu; (exact .inr rfl); (focus (repeat' (first | (apply lc; (focus (conv => lhs; whnf); try exact rfl); (exact Wk.same _)) | exact iq))); exact rfl; (exact rfl); exact Nat.le_refl _; (focus (repeat' (first | exact trivial | refine ⟨?_, ?_⟩))); exact hso)
      exact ⟨rfl, rfl⟩
theorem ang (xs : List (Int × Int)) (hl : xs.length ≤ 1048576) (σ : Sto) : jo Try.prog 102 [.sl .sh 2 (xs.map plc)] σ fun x σ' =>
    (xs = [] ∧ x = .xsl 0 0 2 0 0 ∧ σ' = σ) ∨ ∃ c, xs.length ≤ c ∧ x = .xsl σ.length 0 2 xs.length c ∧ σ' = σ ++ [.cells (flat (xs.map plc) ++ room ((c - xs.length) * 2))] := by
  refine ny tab Try.func102 rfl (nlb rfl) (by decide) fun hso => ?_
  repeat' (first | (apply bn; (first | (apply bv; (apply bu (tt := tt); (focus (conv => lhs; whnf); try exact rfl); exact rfl)) | (apply ai; (apply aa9 (tt := tt); exact rfl; exact rfl)) | (apply ak))) | (apply bq; (first | (apply bg) | (apply ah))) | (apply bf))
  refine aa4 (tt := tt) tab rfl rfl rfl ?_
  intro b hb
  cases b
  · repeat' (first | (apply bn; (first | (apply bv; (apply bu (tt := tt); (focus (conv => lhs; whnf); try exact rfl); exact rfl)) | (apply mi; (apply ac2 tab; exact rfl; exact rfl)) | (apply ak))) | (apply bq; (first | (apply bg) | (apply ah) | (apply dm; exact rfl; (exact rfl)) | (apply gz))) | (apply bf))
    by_cases hx : xs = []
    · subst hx
      refine acw tab rfl rfl rfl rfl rfl rfl (.sl _) rfl ?_
      repeat' (first | (apply bn; (first | (apply ai; (apply az (tt := tt); (focus (conv => lhs; whnf); try exact rfl); exact rfl)) | (apply ak))) | (apply bq; (apply dn)) | (apply bf))
      (change gu _ _ _ _ _ _ _; apply fu; (exact .inr rfl); (focus (repeat' (first | (apply lc; (focus (conv => lhs; whnf); try exact rfl); (exact Wk.same _)) | exact iq))); exact rfl; (exact (List.append_nil _).symm); exact Nat.le_refl _; (focus (repeat' (first | exact trivial | exact .inl rfl | refine ⟨?_, ?_⟩))); exact hso)
      exact .inl ⟨rfl, rfl, rfl⟩
    · refine ab7 tab rfl rfl rfl rfl rfl (.none 0 0 0) rfl (.sl _) ?_ ?_ rfl ?_
      · simp; exact List.length_pos_iff.2 hx
      · exact ac8 rfl (by simp; omega)
      intro c hc
      rw [Nat.zero_add, List.length_map] at *
      repeat' (first | (apply bn; (first | (apply ai; (apply az (tt := tt); (focus (conv => lhs; whnf); try exact rfl); exact rfl)) | (apply ak))) | (apply bq; (apply dn)) | (apply bf))
      (change gu _ _ _ _ _ _ _; apply fu (ex := []); (exact .inr rfl); (focus (repeat' (first | (apply lc; (focus (conv => lhs; whnf); try exact rfl); (exact Wk.same _)) | exact iq))); exact rfl; exact (List.append_nil _).symm; (rw [List.length_append]; exact Nat.le_add_right _ _); (focus (repeat' (first | exact trivial | exact .inr (by simp) | refine ⟨?_, ?_⟩))))
      · exact adv hso (agp (f := plc) (fun _ => rfl) _ _ _)
      · exact .inr ⟨c, hc, rfl, rfl⟩
  · have hx : xs = [] := by simpa using hb rfl
    subst hx
    repeat' (first | (apply bn; (first | (apply ai; (apply aa9 (tt := tt); exact rfl; exact rfl)) | (apply ak))) | (apply bq; (first | (apply bg) | (apply ah) | (apply df; exact rfl; (exact rfl)) | (apply dn))) | (apply bf) | (apply lq))
    (change gu _ _ _ _ _ _ _; apply fu; (exact .inr rfl); (focus (repeat' (first | (apply lc; (focus (conv => lhs; whnf); try exact rfl); (exact Wk.same _)) | exact iq))); exact rfl; (exact (List.append_nil _).symm); exact Nat.le_refl _; (focus (repeat' (first | exact trivial | exact .inl rfl | refine ⟨?_, ?_⟩))); exact hso)
    exact .inl ⟨rfl, rfl, rfl⟩
theorem anb (xs : List (Int × Int)) (hl : xs.length ≤ 1048576) (σ : Sto) : jo Try.prog 102 [.sl .sh 2 (xs.map plc)] σ fun x σ' => x = .sl .ow 2 (xs.map plc) ∧ σ' = σ := by
  refine ny tab Try.func102 rfl (nlb rfl) (by decide) fun hso => ?_
  repeat' (first | (apply bn; (first | (apply bv; (apply bu (tt := tt); (focus (conv => lhs; whnf); try exact rfl); exact rfl)) | (apply ai; (apply qx (tt := tt); exact rfl; exact ltn rfl)) | (apply ak))) | (apply bq; (first | (apply bg) | (apply ah))) | (apply bf))
  refine aa4 (tt := tt) tab rfl rfl rfl ?_
  intro b hb
  cases b
  · repeat' (first | (apply bn; (first | (apply bv; (apply bu (tt := tt); (focus (conv => lhs; whnf); try exact rfl); exact rfl)) | (apply ai; (apply qh (.inl rfl); (focus (conv => lhs; whnf); try exact rfl); exact rfl; exact ltn rfl)) | (apply jr; (apply qf tab; (focus (conv => lhs; whnf); try exact rfl); exact rfl; exact rfl; exact rfl; exact rfl; exact rfl; (focus (conv => lhs; whnf); try exact rfl); exact rfl; (simp only [List.length_map, List.length_append, List.length_cons, List.length_nil, List.length_take]; omega); (exact qw _ (fun _ => rfl) _); exact rfl)) | (apply mi; (apply mq .ow tab; exact rfl; (focus ((repeat (apply mh; (focus (conv => lhs; whnf); try exact rfl))); exact nk)); exact rfl; exact rfl; exact rfl; exact rfl; exact rfl; exact rfl)) | (apply ak))) | (apply bq; (first | (apply bg) | (apply ah) | (apply dm; exact rfl; (exact rfl)) | (apply gz) | (apply dn))) | (apply bf))
    (change gu _ _ _ _ _ _ _; apply aaq; (exact .inr rfl); exact rfl; (focus (conv => lhs; whnf); try exact rfl); exact Wk.same _; exact rfl; exact (List.append_nil _).symm; exact Nat.le_refl _; exact trivial; exact hso)
    exact ⟨rfl, rfl⟩
  · have hx : xs = [] := by simpa using hb rfl
    subst hx
    repeat' (first | (apply bn; (first | (apply ai; (apply qx (tt := tt); exact rfl; exact ltn rfl)) | (apply ak))) | (apply bq; (first | (apply bg) | (apply ah) | (apply df; exact rfl; (exact rfl)) | (apply dn))) | (apply bf) | (apply lq))
    (change gu _ _ _ _ _ _ _; apply aaq; (exact .inr rfl); exact rfl; (focus (conv => lhs; whnf); try exact rfl); exact Wk.same _; exact rfl; exact (List.append_nil _).symm; exact Nat.le_refl _; exact trivial; exact hso)
    exact ⟨rfl, rfl⟩
theorem ahw (xs : List (Int × Int)) (i : Int) (v : Int × Int) (hl : xs.length ≤ 1048576) (hi : i < 0 ∨ i.toNat < xs.length) (σ : Sto) : jo Try.prog 87 [.sl .sh 2 (xs.map plc), .int .i64 i, plc v] σ fun r σ' => r = .sl .sh 2 ((ql xs i v).map plc) ∧ σ' = σ := by
  refine ny tab Try.func87 rfl (nlb rfl) (by decide) fun hso => oh ?_
  by_cases hn : i < 0
  · have c1 : decide (i < 0) = true := decide_eq_true hn
    have e : (ql xs i v).map plc = xs.map plc ++ [plc v] := by rw [ql, if_pos hn, List.map_append]; rfl
    rw [e]
    repeat' (first | (apply bn; (first | (apply bv; (first | (apply qh (d := 11) (.inr rfl); (focus (conv => lhs; whnf); try exact rfl); exact rfl; exact ltn rfl) | (apply bu (tt := tt); (focus (conv => lhs; whnf); try exact rfl); exact rfl))) | (apply ai; (first | (apply qx (tt := tt); exact rfl; exact ltn rfl) | (apply qh (.inl rfl); (focus (conv => lhs; whnf); try exact rfl); exact rfl; exact ltn rfl))) | (apply ji; (refine cz (tt := tt) aq4 (anb _ ?_ _) rfl rfl rfl rfl rfl ?_; (assumption))) | (apply dw; (apply di true tab; (focus (conv => lhs; whnf; arg 1; whnf; arg 2; whnf); try exact rfl); (exact trivial); exact rfl)) | (apply fq; (apply aa; (apply aj tab; exact rfl; exact rfl; exact rfl; (focus (conv => lhs; whnf; arg 1; whnf; arg 2; whnf); try skip); (exact nlb rfl)); (intro c h; cases h); exact rfl)) | (apply jr; (apply qf tab; (focus (conv => lhs; whnf); try exact rfl); exact rfl; exact rfl; exact rfl; exact rfl; exact rfl; (focus (conv => lhs; whnf); try exact rfl); exact rfl; (simp only [List.length_map, List.length_append, List.length_cons, List.length_nil, List.length_take]; omega); (exact rfl); exact rfl)) | (apply mi; (apply mq .ow tab; exact rfl; (focus ((repeat (apply mh; (focus (conv => lhs; whnf); try exact rfl))); exact nk)); exact rfl; exact rfl; exact rfl; exact rfl; exact rfl; exact rfl)) | (apply lu; (apply kg (tt := tt); (focus (conv => lhs; whnf); try exact rfl); exact rfl; (exact (rfl : _ = 0)); exact rfl)) | (apply ak))) | (apply bq; (first | (apply bg) | (apply ah) | (apply df; exact rfl; (assumption)) | (apply dn))) | (apply bf) | (apply lq))
    (change gu _ _ _ _ _ _ _; apply fu; (exact .inr rfl); (focus (repeat' (first | (apply lc; (focus (conv => lhs; whnf); try exact rfl); (exact Wk.sh)) | exact iq))); exact rfl; (exact rfl); exact Nat.le_refl _; (focus (repeat' (first | exact trivial | refine ⟨?_, ?_⟩))); exact hso)
    exact ⟨rfl, rfl⟩
  · have c1 : decide (i < 0) = false := decide_eq_false hn
    have hlt : i.toNat < xs.length := by omega
    have h0 : 0 ≤ i := by omega
    have e : ql xs i v = xs.set i.toNat v := if_neg hn
    rw [e]
    have hC := ang xs hl (σ ++ [.cells (plc v).cells])
    simp only [List.length_append, List.length_cons, List.length_nil, List.append_assoc, List.cons_append, List.nil_append, Nat.zero_add, Nat.reduceAdd] at hC
    repeat' (first | (apply bn; (first | (apply bv; (apply bu (tt := tt); (focus (conv => lhs; whnf); try exact rfl); exact rfl)) | (apply ai; (apply qx (tt := tt); exact rfl; exact ltn rfl)) | (apply lu; (apply kg (tt := tt); (focus (conv => lhs; whnf); try exact rfl); exact rfl; (exact (rfl : _ = 0)); exact rfl)) | (apply ak))) | (apply bq; (first | (apply bg) | (apply ah))) | (apply bf))
    refine aar (tt := tt) aq4 hC rfl rfl rfl rfl rfl ?_
    rintro r σ' (⟨he, rfl, rfl⟩ | ⟨c, hc, rfl, rfl⟩)
    · subst he; exact absurd hlt (Nat.not_lt_zero _)
    · repeat' (first | (apply bn; (first | (apply bv; (apply bu (tt := tt); (focus (conv => lhs; whnf); try exact rfl); exact rfl)) | (apply ai; (apply az (tt := tt); (focus (conv => lhs; whnf); try exact rfl); exact rfl)) | (apply dw; (apply di true tab; (focus (conv => lhs; whnf; arg 1; whnf; arg 2; whnf); try exact rfl); (exact trivial); exact rfl)) | (apply fq; (apply aa; (apply aj tab; exact rfl; exact rfl; exact rfl; (focus (conv => lhs; whnf; arg 1; whnf; arg 2; whnf); try skip); (exact nlb rfl)); (intro c h; cases h); exact rfl)) | (apply j5; (apply qj tab (tI := 3); (focus (conv => lhs; whnf; arg 1; whnf; arg 2; whnf); try exact rfl); (refine ⟨rfl, ?_, ?_⟩ <;> omega); exact rfl)) | (apply ak))) | (apply bq; (first | (apply bg) | (apply ah) | (apply dm; exact rfl; (assumption)) | (apply gz))) | (apply bf))
      refine mg (k := 1) (v := v) plc tab rfl rfl rfl rfl (fun _ => rfl) rfl rfl rfl hlt ?_
      have hfr := abt (i := σ.length + 1) (cap := c) (es := (xs.set i.toNat v).map plc) (sz := 2) (fun e he => by obtain ⟨x, _, rfl⟩ := List.mem_map.1 he; rfl)
      rw [List.length_map, List.length_set] at hfr
      refine ac6 (k := 1) [(0, .sl .sh 2 ((xs.set i.toNat v).map plc))] [.cells (plc v).cells, .gone] rfl (aaz fun _ => rfl) ⟨hfr, trivial⟩ ⟨.inl rfl, .inl rfl, trivial⟩ ?_
      repeat' (first | (apply bn; (first | (apply bv; (apply bu (tt := tt); (focus (conv => lhs; whnf); try exact rfl); exact rfl)) | (apply ai; (apply az (tt := tt); (focus (conv => lhs; whnf); try exact rfl); exact rfl)) | (apply ak))) | (apply bq; (first | (apply bg) | (apply ah) | (apply dn))) | (apply bf))
      (change gu _ _ _ _ _ _ _; apply fu; (exact .inr rfl); (focus (repeat' (first | (apply lc; (focus (conv => lhs; whnf); try exact rfl); (exact Wk.same _)) | exact iq))); exact rfl; (exact rfl); exact Nat.le_refl _; (focus (repeat' (first | exact trivial | refine ⟨?_, ?_⟩))); exact hso)
      exact ⟨rfl, rfl⟩
theorem amb (xs : List (Int × Int)) (hl : xs.length ≤ 1048576) (σ : Sto) : jo Try.prog 107 [.sl .sh 2 (xs.map plc)] σ fun x σ' =>
    (xs = [] ∧ x = .xsl 0 0 2 0 0 ∧ σ' = σ) ∨ ∃ c, xs.length ≤ c ∧ x = .xsl σ.length 0 2 xs.length c ∧ σ' = σ ++ [.cells (flat (xs.map plc) ++ room ((c - xs.length) * 2))] := by
  refine ny tab Try.func107 rfl (nlb rfl) (by decide) fun hso => ?_
  repeat' (first | (apply bn; (first | (apply bv; (apply bu (tt := tt); (focus (conv => lhs; whnf); try exact rfl); exact rfl)) | (apply ai; (apply aa9 (tt := tt); exact rfl; exact rfl)) | (apply ak))) | (apply bq; (first | (apply bg) | (apply ah))) | (apply bf))
  refine aa4 (tt := tt) tab rfl rfl rfl ?_
  intro b hb
  cases b
  · repeat' (first | (apply bn; (first | (apply bv; (apply bu (tt := tt); (focus (conv => lhs; whnf); try exact rfl); exact rfl)) | (apply mi; (apply ac2 tab; exact rfl; exact rfl)) | (apply ak))) | (apply bq; (first | (apply bg) | (apply ah) | (apply dm; exact rfl; (exact rfl)) | (apply gz))) | (apply bf))
    by_cases hx : xs = []
    · subst hx
      refine acw tab rfl rfl rfl rfl rfl rfl (.sl _) rfl ?_
      repeat' (first | (apply bn; (first | (apply ai; (apply az (tt := tt); (focus (conv => lhs; whnf); try exact rfl); exact rfl)) | (apply ak))) | (apply bq; (apply dn)) | (apply bf))
      (change gu _ _ _ _ _ _ _; apply fu; (exact .inr rfl); (focus (repeat' (first | (apply lc; (focus (conv => lhs; whnf); try exact rfl); (exact Wk.same _)) | exact iq))); exact rfl; (exact (List.append_nil _).symm); exact Nat.le_refl _; (focus (repeat' (first | exact trivial | exact .inl rfl | refine ⟨?_, ?_⟩))); exact hso)
      exact .inl ⟨rfl, rfl, rfl⟩
    · refine ab7 tab rfl rfl rfl rfl rfl (.none 0 0 0) rfl (.sl _) ?_ ?_ rfl ?_
      · simp; exact List.length_pos_iff.2 hx
      · exact ac8 rfl (by simp; omega)
      intro c hc
      rw [Nat.zero_add, List.length_map] at *
      repeat' (first | (apply bn; (first | (apply ai; (apply az (tt := tt); (focus (conv => lhs; whnf); try exact rfl); exact rfl)) | (apply ak))) | (apply bq; (apply dn)) | (apply bf))
      (change gu _ _ _ _ _ _ _; apply fu (ex := []); (exact .inr rfl); (focus (repeat' (first | (apply lc; (focus (conv => lhs; whnf); try exact rfl); (exact Wk.same _)) | exact iq))); exact rfl; exact (List.append_nil _).symm; (rw [List.length_append]; exact Nat.le_add_right _ _); (focus (repeat' (first | exact trivial | exact .inr (by simp) | refine ⟨?_, ?_⟩))))
      · exact adv hso (agp (f := plc) (fun _ => rfl) _ _ _)
      · exact .inr ⟨c, hc, rfl, rfl⟩
  · have hx : xs = [] := by simpa using hb rfl
    subst hx
    repeat' (first | (apply bn; (first | (apply ai; (apply aa9 (tt := tt); exact rfl; exact rfl)) | (apply ak))) | (apply bq; (first | (apply bg) | (apply ah) | (apply df; exact rfl; (exact rfl)) | (apply dn))) | (apply bf) | (apply lq))
    (change gu _ _ _ _ _ _ _; apply fu; (exact .inr rfl); (focus (repeat' (first | (apply lc; (focus (conv => lhs; whnf); try exact rfl); (exact Wk.same _)) | exact iq))); exact rfl; (exact (List.append_nil _).symm); exact Nat.le_refl _; (focus (repeat' (first | exact trivial | exact .inl rfl | refine ⟨?_, ?_⟩))); exact hso)
    exact .inl ⟨rfl, rfl, rfl⟩
theorem amn (xs : List (Int × Int)) (hl : xs.length ≤ 1048576) (σ : Sto) : jo Try.prog 107 [.sl .sh 2 (xs.map plc)] σ fun x σ' => x = .sl .ow 2 (xs.map plc) ∧ σ' = σ := by
  refine ny tab Try.func107 rfl (nlb rfl) (by decide) fun hso => ?_
  repeat' (first | (apply bn; (first | (apply bv; (apply bu (tt := tt); (focus (conv => lhs; whnf); try exact rfl); exact rfl)) | (apply ai; (apply qx (tt := tt); exact rfl; exact ltn rfl)) | (apply ak))) | (apply bq; (first | (apply bg) | (apply ah))) | (apply bf))
  refine aa4 (tt := tt) tab rfl rfl rfl ?_
  intro b hb
  cases b
  · repeat' (first | (apply bn; (first | (apply bv; (apply bu (tt := tt); (focus (conv => lhs; whnf); try exact rfl); exact rfl)) | (apply ai; (apply qh (.inl rfl); (focus (conv => lhs; whnf); try exact rfl); exact rfl; exact ltn rfl)) | (apply jr; (apply qf tab; (focus (conv => lhs; whnf); try exact rfl); exact rfl; exact rfl; exact rfl; exact rfl; exact rfl; (focus (conv => lhs; whnf); try exact rfl); exact rfl; (simp only [List.length_map, List.length_append, List.length_cons, List.length_nil, List.length_take]; omega); (exact qw _ (fun _ => rfl) _); exact rfl)) | (apply mi; (apply mq .ow tab; exact rfl; (focus ((repeat (apply mh; (focus (conv => lhs; whnf); try exact rfl))); exact nk)); exact rfl; exact rfl; exact rfl; exact rfl; exact rfl; exact rfl)) | (apply ak))) | (apply bq; (first | (apply bg) | (apply ah) | (apply dm; exact rfl; (exact rfl)) | (apply gz) | (apply dn))) | (apply bf))
    (change gu _ _ _ _ _ _ _; apply aaq; (exact .inr rfl); exact rfl; (focus (conv => lhs; whnf); try exact rfl); exact Wk.same _; exact rfl; exact (List.append_nil _).symm; exact Nat.le_refl _; exact trivial; exact hso)
    exact ⟨rfl, rfl⟩
  · have hx : xs = [] := by simpa using hb rfl
    subst hx
    repeat' (first | (apply bn; (first | (apply ai; (apply qx (tt := tt); exact rfl; exact ltn rfl)) | (apply ak))) | (apply bq; (first | (apply bg) | (apply ah) | (apply df; exact rfl; (exact rfl)) | (apply dn))) | (apply bf) | (apply lq))
    (change gu _ _ _ _ _ _ _; apply aaq; (exact .inr rfl); exact rfl; (focus (conv => lhs; whnf); try exact rfl); exact Wk.same _; exact rfl; exact (List.append_nil _).symm; exact Nat.le_refl _; exact trivial; exact hso)
    exact ⟨rfl, rfl⟩
theorem aq9 (xs : List (Int × Int)) (i : Int) (v : Int × Int) (hl : xs.length ≤ 1048576) (hi : i < 0 ∨ i.toNat < xs.length) (σ : Sto) : jo Try.prog 96 [.sl .sh 2 (xs.map plc), .int .i64 i, plc v] σ fun r σ' => r = .sl .sh 2 ((ql xs i v).map plc) ∧ σ' = σ := by
  refine ny tab Try.func96 rfl (nlb rfl) (by decide) fun hso => oh ?_
  by_cases hn : i < 0
  · have c1 : decide (i < 0) = true := decide_eq_true hn
    have e : (ql xs i v).map plc = xs.map plc ++ [plc v] := by rw [ql, if_pos hn, List.map_append]; rfl
    rw [e]
    repeat' (first | (apply bn; (first | (apply bv; (first | (apply qh (d := 11) (.inr rfl); (focus (conv => lhs; whnf); try exact rfl); exact rfl; exact ltn rfl) | (apply bu (tt := tt); (focus (conv => lhs; whnf); try exact rfl); exact rfl))) | (apply ai; (first | (apply qx (tt := tt); exact rfl; exact ltn rfl) | (apply qh (.inl rfl); (focus (conv => lhs; whnf); try exact rfl); exact rfl; exact ltn rfl))) | (apply ji; (refine cz (tt := tt) arz (amn _ ?_ _) rfl rfl rfl rfl rfl ?_; (assumption))) | (apply dw; (apply di true tab; (focus (conv => lhs; whnf; arg 1; whnf; arg 2; whnf); try exact rfl); (exact trivial); exact rfl)) | (apply fq; (apply aa; (apply aj tab; exact rfl; exact rfl; exact rfl; (focus (conv => lhs; whnf; arg 1; whnf; arg 2; whnf); try skip); (exact nlb rfl)); (intro c h; cases h); exact rfl)) | (apply jr; (apply qf tab; (focus (conv => lhs; whnf); try exact rfl); exact rfl; exact rfl; exact rfl; exact rfl; exact rfl; (focus (conv => lhs; whnf); try exact rfl); exact rfl; (simp only [List.length_map, List.length_append, List.length_cons, List.length_nil, List.length_take]; omega); (exact rfl); exact rfl)) | (apply mi; (apply mq .ow tab; exact rfl; (focus ((repeat (apply mh; (focus (conv => lhs; whnf); try exact rfl))); exact nk)); exact rfl; exact rfl; exact rfl; exact rfl; exact rfl; exact rfl)) | (apply lu; (apply kg (tt := tt); (focus (conv => lhs; whnf); try exact rfl); exact rfl; (exact (rfl : _ = 0)); exact rfl)) | (apply ak))) | (apply bq; (first | (apply bg) | (apply ah) | (apply df; exact rfl; (assumption)) | (apply dn))) | (apply bf) | (apply lq))
    (change gu _ _ _ _ _ _ _; apply fu; (exact .inr rfl); (focus (repeat' (first | (apply lc; (focus (conv => lhs; whnf); try exact rfl); (exact Wk.sh)) | exact iq))); exact rfl; (exact rfl); exact Nat.le_refl _; (focus (repeat' (first | exact trivial | refine ⟨?_, ?_⟩))); exact hso)
    exact ⟨rfl, rfl⟩
  · have c1 : decide (i < 0) = false := decide_eq_false hn
    have hlt : i.toNat < xs.length := by omega
    have h0 : 0 ≤ i := by omega
    have e : ql xs i v = xs.set i.toNat v := if_neg hn
    rw [e]
    have hC := amb xs hl (σ ++ [.cells (plc v).cells])
    simp only [List.length_append, List.length_cons, List.length_nil, List.append_assoc, List.cons_append, List.nil_append, Nat.zero_add, Nat.reduceAdd] at hC
    repeat' (first | (apply bn; (first | (apply bv; (apply bu (tt := tt); (focus (conv => lhs; whnf); try exact rfl); exact rfl)) | (apply ai; (apply qx (tt := tt); exact rfl; exact ltn rfl)) | (apply lu; (apply kg (tt := tt); (focus (conv => lhs; whnf); try exact rfl); exact rfl; (exact (rfl : _ = 0)); exact rfl)) | (apply ak))) | (apply bq; (first | (apply bg) | (apply ah))) | (apply bf))
    refine aar (tt := tt) arz hC rfl rfl rfl rfl rfl ?_
    rintro r σ' (⟨he, rfl, rfl⟩ | ⟨c, hc, rfl, rfl⟩)
    · subst he; exact absurd hlt (Nat.not_lt_zero _)
    · repeat' (first | (apply bn; (first | (apply bv; (apply bu (tt := tt); (focus (conv => lhs; whnf); try exact rfl); exact rfl)) | (apply ai; (apply az (tt := tt); (focus (conv => lhs; whnf); try exact rfl); exact rfl)) | (apply dw; (apply di true tab; (focus (conv => lhs; whnf; arg 1; whnf; arg 2; whnf); try exact rfl); (exact trivial); exact rfl)) | (apply fq; (apply aa; (apply aj tab; exact rfl; exact rfl; exact rfl; (focus (conv => lhs; whnf; arg 1; whnf; arg 2; whnf); try skip); (exact nlb rfl)); (intro c h; cases h); exact rfl)) | (apply j5; (apply qj tab (tI := 3); (focus (conv => lhs; whnf; arg 1; whnf; arg 2; whnf); try exact rfl); (refine ⟨rfl, ?_, ?_⟩ <;> omega); exact rfl)) | (apply ak))) | (apply bq; (first | (apply bg) | (apply ah) | (apply dm; exact rfl; (assumption)) | (apply gz))) | (apply bf))
      refine mg (k := 1) (v := v) plc tab rfl rfl rfl rfl (fun _ => rfl) rfl rfl rfl hlt ?_
      have hfr := abt (i := σ.length + 1) (cap := c) (es := (xs.set i.toNat v).map plc) (sz := 2) (fun e he => by obtain ⟨x, _, rfl⟩ := List.mem_map.1 he; rfl)
      rw [List.length_map, List.length_set] at hfr
      refine ac6 (k := 1) [(0, .sl .sh 2 ((xs.set i.toNat v).map plc))] [.cells (plc v).cells, .gone] rfl (aaz fun _ => rfl) ⟨hfr, trivial⟩ ⟨.inl rfl, .inl rfl, trivial⟩ ?_
      repeat' (first | (apply bn; (first | (apply bv; (apply bu (tt := tt); (focus (conv => lhs; whnf); try exact rfl); exact rfl)) | (apply ai; (apply az (tt := tt); (focus (conv => lhs; whnf); try exact rfl); exact rfl)) | (apply ak))) | (apply bq; (first | (apply bg) | (apply ah) | (apply dn))) | (apply bf))
      (change gu _ _ _ _ _ _ _; apply fu; (exact .inr rfl); (focus (repeat' (first | (apply lc; (focus (conv => lhs; whnf); try exact rfl); (exact Wk.same _)) | exact iq))); exact rfl; (exact rfl); exact Nat.le_refl _; (focus (repeat' (first | exact trivial | refine ⟨?_, ?_⟩))); exact hso)
      exact ⟨rfl, rfl⟩
end Go.Proofs.Ytbpjaiemlkcccaa.Pv
end
section
/- Indexes in the program itself: a name told; a volume opened, locked. -/
namespace Go.Proofs.Ytbpjaiemlkcccaa.Pv
open Go
set_option maxRecDepth 100000
theorem ase (x : Ix) (c : Cm) (hnl : x.names.length ≤ 1048576) (k5 : c.kind = 5) (σ : Sto) : jo Try.prog 77 [ix x, cm c] σ fun r σ' => r = .tup [ix (aas x c).1, rp (aas x c).2] ∧ σ' = σ := by
  refine ny tab Try.func77 rfl (nlb rfl) (by decide) fun hso => oh ?_
  have v1 := afo x c.name hnl
  unfold aas
  by_cases h0 : u7 x c.name < 0
  · rw [if_pos h0]
    have c0 : decide (u7 x c.name < 0) = true := decide_eq_true h0
    repeat' (first | (apply bn; (first | (apply bv; (apply bu (tt := tt); (focus (conv => lhs; whnf); try exact rfl); exact rfl)) | (apply ai; (apply az (tt := tt); (focus (conv => lhs; whnf); try exact rfl); exact rfl)) | (apply ji; (refine cz (tt := tt) acz (v1 _) rfl rfl rfl rfl rfl ?_)) | (apply dw; (apply di true tab; (focus (conv => lhs; whnf; arg 1; whnf; arg 2; whnf); try exact rfl); (exact trivial); exact rfl)) | (apply fq; (apply aa; (apply aj tab; exact rfl; exact rfl; exact rfl; (focus (conv => lhs; whnf; arg 1; whnf; arg 2; whnf); try skip); (first | exact trivial | exact nlb rfl)); (intro c h; cases h); exact rfl)) | (apply cu; (apply aa; (apply af tab; exact rfl; (focus (conv => lhs; whnf); try exact rfl); exact rfl; (exact (rfl : _ = 3))); (intro c h; cases h); exact rfl)) | (apply iw; (apply iy (tt := tt); (focus (conv => lhs; whnf; arg 1; whnf; arg 2; whnf); try exact rfl); (exact trivial); exact rfl)) | (apply gq; (apply dz tab; exact rfl; exact rfl; exact rfl; (focus (conv => lhs; whnf); try exact rfl); exact rfl; exact rfl; exact rfl; exact rfl)) | (apply pq; (apply aa; (apply gy tab; exact rfl; (focus (conv => lhs; whnf; arg 1; whnf; arg 2; whnf); try skip)); (intro c h; cases h); exact rfl)) | (apply je; (apply ik tab; exact rfl; exact rfl; (first | exact (rfl : _ = 2) | exact (rfl : _ = 3) | exact (rfl : _ = 4)); exact rfl)) | (apply lu; (apply kg (tt := tt); (focus (conv => lhs; whnf); try exact rfl); exact rfl; (first | exact (rfl : _ = 0) | exact (rfl : _ = 1)); exact rfl)) | (apply ak))) | (apply bq; (first | (apply bg) | (apply ah) | (apply df; exact rfl; (assumption)) | (apply dn))) | (apply bf) | (apply lq))
    (change gu _ _ _ _ _ _ _; apply fu; (exact .inr rfl); (focus (repeat' (first | (apply mr; exact rfl; exact rfl; exact rfl; (focus (conv => lhs; whnf; arg 1; whnf; arg 2; whnf); try skip); (exact nlb rfl)) | exact iq))); exact rfl; (exact rfl); exact Nat.le_refl _; (focus (repeat' (first | exact trivial | refine ⟨?_, ?_⟩))); exact hso)
    exact ⟨rfl, rfl⟩
  rw [if_neg h0, if_pos k5]
  have c0 : decide (u7 x c.name < 0) = false := decide_eq_false h0
  rw [asi h0] at v1
  generalize x.names.getD (u7 x c.name).toNat default = v at *
  repeat' (first | (apply bn; (first | (apply bv; (apply bu (tt := tt); (focus (conv => lhs; whnf); try exact rfl); exact rfl)) | (apply ai; (apply az (tt := tt); (focus (conv => lhs; whnf); try exact rfl); exact rfl)) | (apply ji; (refine cz (tt := tt) acz (v1 _) rfl rfl rfl rfl rfl ?_)) | (apply dw; (apply di true tab; (focus (conv => lhs; whnf; arg 1; whnf; arg 2; whnf); try exact rfl); (exact trivial); exact rfl)) | (apply fq; (apply aa; (apply aj tab; exact rfl; exact rfl; exact rfl; (focus (conv => lhs; whnf; arg 1; whnf; arg 2; whnf); try skip); (first | exact trivial | exact nlb rfl)); (intro c h; cases h); exact rfl)) | (apply cu; (apply aa; (apply af tab; exact rfl; (focus (conv => lhs; whnf); try exact rfl); exact rfl; (exact (rfl : _ = 3))); (intro c h; cases h); exact rfl)) | (apply iw; (apply iy (tt := tt); (focus (conv => lhs; whnf; arg 1; whnf; arg 2; whnf); try exact rfl); (exact trivial); exact rfl)) | (apply gq; (apply dz tab; exact rfl; exact rfl; exact rfl; (focus (conv => lhs; whnf); try exact rfl); exact rfl; exact rfl; exact rfl; exact rfl)) | (apply je; (apply ik tab; exact rfl; exact rfl; (first | exact (rfl : _ = 2) | exact (rfl : _ = 3) | exact (rfl : _ = 4)); exact rfl)) | (apply lu; (apply kg (tt := tt); (focus (conv => lhs; whnf); try exact rfl); exact rfl; (first | exact (rfl : _ = 0) | exact (rfl : _ = 1)); exact rfl)) | (apply ak))) | (apply bq; (first | (apply bg) | (apply ah) | (apply dm; exact rfl; (assumption)) | (apply gz) | (apply dn) | (apply rq (id := 4) (k := 11) (keys := [[19], [20], [21], [22], [23], [24], [25], [26], [27], [28], []]) (j := 10); exact mixed; decide +kernel; decide +kernel))) | (apply bf) | (first | (apply sw; (first | (apply dh; (apply af tab; exact rfl; (focus (conv => lhs; whnf); try exact rfl); exact rfl; (first | exact (rfl : _ = 1) | exact (rfl : _ = 2) | exact (rfl : _ = 3) | exact (rfl : _ = 4)))) | (apply gm; (apply aj tab; exact rfl; exact rfl; exact rfl; (focus (conv => lhs; whnf; arg 1; whnf; arg 2; whnf); try skip); (first | exact trivial | exact nlb rfl))) | (apply j4; (apply gy tab; exact rfl; (focus (conv => lhs; whnf; arg 1; whnf; arg 2; whnf); try skip)))); exact rfl; exact rfl) | (apply vv; intro env0)) | (apply eg3; exact rfl; exact rfl; exact rfl) | (apply wz; (first | exact uy | (apply ui; exact rfl) | (apply w9; decide +kernel) | (apply uz))) | (apply ze; (first | (apply aal) | (apply xe))) | (apply zg; (first | (apply qz; exact rfl; exact rfl) | (apply rf; exact rfl; exact rfl; exact rfl; exact rfl))))
  (change gu _ _ _ _ _ _ _; apply fu; (exact .inr rfl); (focus (repeat' (first | (apply mr; exact rfl; exact rfl; exact rfl; (focus (conv => lhs; whnf; arg 1; whnf; arg 2; whnf); try skip); (exact nlb rfl)) | exact iq))); exact rfl; (exact rfl); exact Nat.le_refl _; (focus (repeat' (first | exact trivial | refine ⟨?_, ?_⟩))); exact hso)
  exact ⟨rfl, rfl⟩
end Go.Proofs.Ytbpjaiemlkcccaa.Pv
end
