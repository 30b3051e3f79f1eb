
/- TraceFirst. -/
import Derived.Test.YtbpjaiemlkcccaaLibTrcW
import Derived.Test.YtbpjaiemlkcccaaLibK11
namespace Go.Proofs.Ytbpjaiemlkcccaa.Pv
open Go
set_option linter.unusedVariables false
set_option linter.unusedSimpArgs false
set_option maxRecDepth 100000

theorem ako {F : List Ft} {puts : List Pt} {name : ByteArray} {a : Int} (h : ∀ f ∈ F, ¬ ofT name a f) (v : ByteArray × Bool) : aau F puts name a F.length v = v := by
  unfold aau
  rw [List.take_length]
  induction F with
  | nil => rfl
  | cons f r ih =>
    rw [List.foldl_cons, show ad1 puts name a v f = v from if_neg (h f List.mem_cons_self)]
    exact ih fun x hx => h x (List.mem_cons_of_mem _ hx)
def ack (F : List Ft) (a : Int) (i : Nat) : Int := (F.take i).foldl (fun m f => if f.at_ < m then f.at_ else m) a
def aeq (F : List Ft) (name : ByteArray) (i : Nat) : Bool := (F.take i).any fun f => decide (f.name = name)
theorem aiq {F : List Ft} {a : Int} {i : Nat} (h : i < F.length) : ack F a (i + 1) = if (F.getD i default).at_ < ack F a i then (F.getD i default).at_ else ack F a i := by
  unfold ack
  rw [List.take_succ_eq_append_getElem h, List.foldl_append, List.getD_eq_getElem?_getD, List.getElem?_eq_getElem h]; rfl
theorem an2 {F : List Ft} {name : ByteArray} {i : Nat} (h : i < F.length) : aeq F name (i + 1) = (aeq F name i || decide ((F.getD i default).name = name)) := by
  unfold aeq
  rw [List.take_succ_eq_append_getElem h, List.any_append, List.getD_eq_getElem?_getD, List.getElem?_eq_getElem h]; simp
theorem ak7 (F : List Ft) (a : Int) : ∀ i, i ≤ F.length → ∀ j, j < i → ack F a i ≤ (F.getD j default).at_
  | 0, _, j, hj => by omega
  | i + 1, hi, j, hj => by
    rw [aiq (by omega)]
    have ih := ak7 F a i (by omega)
    by_cases h : j = i
    · subst h; split <;> omega
    · have := ih j (by omega); split <;> omega

theorem aob (F : List Ft) (a : Int) (puts : List Pt) (name : ByteArray) : aau F puts name (ack F a F.length) F.length (⟨#[]⟩, false) = (⟨#[]⟩, false) := ako (fun f hf h => by
  obtain ⟨j, hj, rfl⟩ := List.getElem_of_mem hf
  have := ak7 F a F.length (Nat.le_refl _) j hj
  rw [List.getD_eq_getElem?_getD, List.getElem?_eq_getElem hj] at this
  have h1 := h.1
  simp only [Option.getD_some] at this
  omega) _
theorem an3 (F : List Ft) (a : Int) (puts : List Pt) (name : ByteArray) (h : aeq F name F.length = false) : aau F puts name a F.length (⟨#[]⟩, false) = (⟨#[]⟩, false) := ako (fun f hf h1 => by
  unfold aeq at h
  rw [List.take_length, List.any_eq_false] at h
  exact h f hf (decide_eq_true h1.2.1)) _

def aig (F : List Ft) (puts : List Pt) (name : ByteArray) (a : Int) : PV := .agg [.sl .sh 11 (F.map ft), .sl .sh 3 (puts.map pt), .str name, .int .i64 a]

set_option maxHeartbeats 4000000 in
theorem arq (F : List Ft) (puts : List Pt) (name : ByteArray) (a : Int) (hF : F.length ≤ 1048576) (hp : puts.length ≤ 1048576) (σ : Sto) :
    jo Try.prog 7 [aig F puts name a] σ fun r σ' => r = .bool true ∧ σ' = σ := by
  refine ny tab Try.func7 rfl (nlb rfl) (by decide) fun hso => oh ?_
  unfold aig
  repeat' (first | (apply bn; (first | (apply bv; (apply bu (tt := tt); (focus (conv => lhs; whnf); try exact rfl); exact rfl)) | (apply ai; (apply az (tt := tt); (focus (conv => lhs; whnf); try exact rfl); exact rfl)) | (apply ji; (refine cz (tt := tt) ao1 (ael _) rfl rfl rfl rfl rfl ?_)) | (apply fq; (apply aa; (apply aj tab; exact rfl; exact rfl; exact rfl; (focus (conv => lhs; whnf; arg 1; whnf; arg 2; whnf); try skip); (exact trivial)); (intro c h; cases h); exact rfl)) | (apply cu; (apply aa; (apply af tab; exact rfl; (focus (conv => lhs; whnf); try exact rfl); exact rfl; (first | exact (rfl : _ = 0) | exact (rfl : _ = 1) | exact (rfl : _ = 2) | exact (rfl : _ = 3))); (intro c h; cases h); exact rfl)) | (apply lu; (apply kg (tt := tt); (focus (conv => lhs; whnf); try exact rfl); exact rfl; (exact (rfl : _ = 0)); exact rfl)) | (apply ak))) | (apply bq; (first | (apply bg) | (apply ah) | (apply ed))) | (apply bf))
  refine ve (fun i : Nat => [(1, .ptr (σ.length + 0) 0), (3, .sl .sh 11 (F.map ft)), (4, .sl .sh 3 (puts.map pt)), (5, .str name), (6, .int .i64 a), (7, .bool true), (8, .int .i64 (ack F a i)), (9, .bool (aeq F name i)), (10, .int .i64 i)]) (fun i => σ ++ [.cells [.sl .sh 11 (F.map ft), .sl .sh 3 (puts.map pt), .str name, .int .i64 a]]) (fun i => i ≤ F.length) (fun i => F.length - i) 0 (Nat.zero_le _) ?_ rfl ?_
  · (repeat' (first | exact trivial | exact Wk.same _ | refine ⟨?_, ?_⟩))
  intro i hi
  rcases Nat.lt_or_ge i F.length with hlt | hge
  · have c1 : decide ((i : Int) < (F.length : Int)) = true := decide_eq_true (by omega)
    have c1m : decide ((i : Int) < ((F.map ft).length : Int)) = true := by rw [List.length_map]; exact c1
    have s1 := aiq (a := a) hlt
    have s2 := an2 (name := name) hlt
    generalize ack F a i = ml at *
    generalize aeq F name i = nb at *
    have e2 : wm (F.getD ((i : Nat) : Int).toNat default).name name = decide ((F.getD i default).name = name) := by
      simp only [Int.toNat_natCast]
      rw [Bool.eq_iff_iff, aa8, decide_eq_true_eq]
    by_cases h1 : (F.getD i default).at_ < ml
    · have e1 : decide ((F.getD ((i : Nat) : Int).toNat default).at_ < ml) = true := decide_eq_true (by simp only [Int.toNat_natCast]; exact h1)
      rw [if_pos h1] at s1
      cases nb with
      | true =>
        rw [Bool.true_or] at s2
        repeat' (first | (apply bn; (first | (apply jq; (apply ky; exact (rfl : _ = some _); exact (rfl : _ = PV.bool _); (exact rfl); exact ltn rfl)) | (apply bv; (apply bu (tt := tt); (focus (conv => lhs; whnf); try exact rfl); exact rfl)) | (apply ai; (apply az (tt := tt); (focus (conv => lhs; whnf); try exact rfl); exact rfl)) | (apply dw; (apply di true tab; (focus (conv => lhs; whnf; arg 1; whnf; arg 2; whnf); try exact rfl); (first | exact trivial | (simp only [InR]; omega)); exact rfl)) | (apply kr; (apply ku (tt := tt); exact (rfl : _ = PV.bool _); (refine .inl ⟨rfl, ?_⟩); (focus (conv => lhs; whnf); try exact rfl); exact ltn rfl)) | (apply fq; (apply ou tab; (focus (conv => lhs; whnf; arg 1; whnf; arg 2; whnf); try skip); (exact trivial); exact rfl)) | (apply jr; (apply ni tab; (focus (conv => lhs; whnf; arg 1; whnf; arg 2; whnf); try exact rfl); (exact trivial); exact rfl)) | (apply j5; (refine lw (tI := 3) _ tab rfl (by (focus (conv => lhs; whnf); try exact rfl)) (by (focus (conv => lhs; whnf); try exact rfl)) rfl (by (omega)) (by (omega)) (by (focus (conv => lhs; whnf); try exact rfl)) (ltn rfl) ?_)) | (apply cu; (apply aa; (apply bz tab; exact rfl; (focus (conv => lhs; whnf); try exact rfl); exact rfl; exact rfl; (focus (conv => lhs; whnf); try exact rfl)); (intro c h; cases h); exact rfl)) | (apply ak))) | (apply bq; (first | (apply bg) | (apply ah) | (apply df; exact rfl; (assumption)) | (apply gz) | (apply ed))) | (apply bf) | (apply ng))
        refine ⟨i + 1, by omega, by omega, ?_, rfl⟩
        rw [s1, s2, ← Int.toNat_natCast i]
        (repeat' (first | exact trivial | exact Wk.same _ | refine ⟨?_, ?_⟩))
      | false =>
        rw [Bool.false_or, ← e2] at s2
        repeat' (first | (apply bn; (first | (apply jq; (apply jc; exact (rfl : _ = some _); exact (rfl : _ = PV.bool _); (exact rfl))) | (apply bv; (apply bu (tt := tt); (focus (conv => lhs; whnf); try exact rfl); exact rfl)) | (apply ai; (apply az (tt := tt); (focus (conv => lhs; whnf); try exact rfl); exact rfl)) | (apply dw; (apply di true tab; (focus (conv => lhs; whnf; arg 1; whnf; arg 2; whnf); try exact rfl); (first | exact trivial | (simp only [InR]; omega)); exact rfl)) | (apply kr; (apply ku (tt := tt); exact (rfl : _ = PV.bool _); (refine .inr ⟨rfl, ?_⟩); (focus (conv => lhs; whnf); try exact rfl); exact ltn rfl)) | (apply fq; (apply ou tab; (focus (conv => lhs; whnf; arg 1; whnf; arg 2; whnf); try skip); (exact trivial); exact rfl)) | (apply jr; (apply ni tab; (focus (conv => lhs; whnf; arg 1; whnf; arg 2; whnf); try exact rfl); (exact trivial); exact rfl)) | (apply j5; (refine lw (tI := 3) _ tab rfl (by (focus (conv => lhs; whnf); try exact rfl)) (by (focus (conv => lhs; whnf); try exact rfl)) rfl (by (omega)) (by (omega)) (by (focus (conv => lhs; whnf); try exact rfl)) (ltn rfl) ?_)) | (apply cu; (apply aa; (apply bz tab; exact rfl; (focus (conv => lhs; whnf); try exact rfl); exact rfl; exact rfl; (focus (conv => lhs; whnf); try exact rfl)); (intro c h; cases h); exact rfl)) | (apply ak))) | (apply bq; (first | (apply bg) | (apply ah) | (apply df; exact rfl; (assumption)) | (apply gz) | (apply ed))) | (apply bf) | (apply ng))
        refine ⟨i + 1, by omega, by omega, ?_, rfl⟩
        rw [s1, s2, ← Int.toNat_natCast i]
        (repeat' (first | exact trivial | exact Wk.same _ | refine ⟨?_, ?_⟩))
    · have e1 : decide ((F.getD ((i : Nat) : Int).toNat default).at_ < ml) = false := decide_eq_false (by simp only [Int.toNat_natCast]; exact h1)
      rw [if_neg h1] at s1
      cases nb with
      | true =>
        rw [Bool.true_or] at s2
        repeat' (first | (apply bn; (first | (apply jq; (apply ky; exact (rfl : _ = some _); exact (rfl : _ = PV.bool _); (exact rfl); exact ltn rfl)) | (apply bv; (apply bu (tt := tt); (focus (conv => lhs; whnf); try exact rfl); exact rfl)) | (apply ai; (apply az (tt := tt); (focus (conv => lhs; whnf); try exact rfl); exact rfl)) | (apply dw; (apply di true tab; (focus (conv => lhs; whnf; arg 1; whnf; arg 2; whnf); try exact rfl); (first | exact trivial | (simp only [InR]; omega)); exact rfl)) | (apply kr; (apply ku (tt := tt); exact (rfl : _ = PV.bool _); (refine .inl ⟨rfl, ?_⟩); (focus (conv => lhs; whnf); try exact rfl); exact ltn rfl)) | (apply fq; (apply ou tab; (focus (conv => lhs; whnf; arg 1; whnf; arg 2; whnf); try skip); (exact trivial); exact rfl)) | (apply jr; (apply ni tab; (focus (conv => lhs; whnf; arg 1; whnf; arg 2; whnf); try exact rfl); (exact trivial); exact rfl)) | (apply j5; (refine lw (tI := 3) _ tab rfl (by (focus (conv => lhs; whnf); try exact rfl)) (by (focus (conv => lhs; whnf); try exact rfl)) rfl (by (omega)) (by (omega)) (by (focus (conv => lhs; whnf); try exact rfl)) (ltn rfl) ?_)) | (apply cu; (apply aa; (apply bz tab; exact rfl; (focus (conv => lhs; whnf); try exact rfl); exact rfl; exact rfl; (focus (conv => lhs; whnf); try exact rfl)); (intro c h; cases h); exact rfl)) | (apply ak))) | (apply bq; (first | (apply bg) | (apply ah) | (apply df; exact rfl; (assumption)) | (apply dm; exact rfl; (assumption)) | (apply gz) | (apply ed))) | (apply bf) | (apply ng))
        refine ⟨i + 1, by omega, by omega, ?_, rfl⟩
        rw [s1, s2]
        (repeat' (first | exact trivial | exact Wk.same _ | refine ⟨?_, ?_⟩))
      | false =>
        rw [Bool.false_or, ← e2] at s2
        repeat' (first | (apply bn; (first | (apply jq; (apply jc; exact (rfl : _ = some _); exact (rfl : _ = PV.bool _); (exact rfl))) | (apply bv; (apply bu (tt := tt); (focus (conv => lhs; whnf); try exact rfl); exact rfl)) | (apply ai; (apply az (tt := tt); (focus (conv => lhs; whnf); try exact rfl); exact rfl)) | (apply dw; (apply di true tab; (focus (conv => lhs; whnf; arg 1; whnf; arg 2; whnf); try exact rfl); (first | exact trivial | (simp only [InR]; omega)); exact rfl)) | (apply kr; (apply ku (tt := tt); exact (rfl : _ = PV.bool _); (refine .inr ⟨rfl, ?_⟩); (focus (conv => lhs; whnf); try exact rfl); exact ltn rfl)) | (apply fq; (apply ou tab; (focus (conv => lhs; whnf; arg 1; whnf; arg 2; whnf); try skip); (exact trivial); exact rfl)) | (apply jr; (apply ni tab; (focus (conv => lhs; whnf; arg 1; whnf; arg 2; whnf); try exact rfl); (exact trivial); exact rfl)) | (apply j5; (refine lw (tI := 3) _ tab rfl (by (focus (conv => lhs; whnf); try exact rfl)) (by (focus (conv => lhs; whnf); try exact rfl)) rfl (by (omega)) (by (omega)) (by (focus (conv => lhs; whnf); try exact rfl)) (ltn rfl) ?_)) | (apply cu; (apply aa; (apply bz tab; exact rfl; (focus (conv => lhs; whnf); try exact rfl); exact rfl; exact rfl; (focus (conv => lhs; whnf); try exact rfl)); (intro c h; cases h); exact rfl)) | (apply ak))) | (apply bq; (first | (apply bg) | (apply ah) | (apply df; exact rfl; (assumption)) | (apply dm; exact rfl; (assumption)) | (apply gz) | (apply ed))) | (apply bf) | (apply ng))
        refine ⟨i + 1, by omega, by omega, ?_, rfl⟩
        rw [s1, s2]
        (repeat' (first | exact trivial | exact Wk.same _ | refine ⟨?_, ?_⟩))
  · have c1 : decide ((i : Int) < (F.length : Int)) = false := decide_eq_false (by omega)
    have c1m : decide ((i : Int) < ((F.map ft).length : Int)) = false := by rw [List.length_map]; exact c1
    have hii : i = F.length := by omega
    subst hii
    have v1 := ah3 F puts name (ack F a F.length) hF hp
    rw [aob] at v1
    have v2 := ah3 F puts name a hF hp
    have f0 : wm (⟨#[]⟩ : ByteArray) ⟨#[]⟩ = true := aa8.2 rfl
    cases hn : aeq F name F.length with
    | true =>
      generalize aau F puts name a F.length (⟨#[]⟩, false) = V at v2
      generalize ack F a F.length = ml at *
      repeat' (first | (apply bn; (first | (apply jq; (first | (apply jc; exact (rfl : _ = some _); exact (rfl : _ = PV.bool _); (exact rfl)) | (apply ru; exact (rfl : _ = some _); exact rfl; exact ltn rfl) | (apply ky; exact (rfl : _ = some _); exact (rfl : _ = PV.bool _); (exact rfl); exact ltn rfl))) | (apply bv; (apply bu (tt := tt); (focus (conv => lhs; whnf); try exact rfl); exact rfl)) | (apply ai; (apply az (tt := tt); (focus (conv => lhs; whnf); try exact rfl); exact rfl)) | (apply ji; (first | (refine cz (tt := tt) ajv (v1 _) rfl rfl rfl rfl rfl ?_) | (refine cz (tt := tt) ajv (v2 _) rfl rfl rfl rfl rfl ?_))) | (apply dw; (apply di true tab; (focus (conv => lhs; whnf; arg 1; whnf; arg 2; whnf); try exact rfl); (exact trivial); exact rfl)) | (apply kr; (apply ku (tt := tt); exact (rfl : _ = PV.bool _); (refine .inl ⟨rfl, ?_⟩); (focus (conv => lhs; whnf); try exact rfl); exact ltn rfl)) | (apply jr; (apply ni tab; (focus (conv => lhs; whnf; arg 1; whnf; arg 2; whnf); try exact rfl); (exact trivial); exact rfl)) | (apply qy; (apply pu (tt := tt) true; (focus (conv => lhs; whnf; arg 1; whnf; arg 2; whnf); try exact rfl); (exact trivial); exact rfl)) | (apply iw; (apply iy (tt := tt); (focus (conv => lhs; whnf; arg 1; whnf; arg 2; whnf); try exact rfl); (exact trivial); exact rfl)) | (apply ak))) | (apply bq; (first | (apply bg) | (apply ah) | (apply dm; exact rfl; (assumption)) | (apply dn) | (apply oo))) | (apply bf) | (apply o9) | (apply pg))
      (change gu _ _ _ _ _ _ _; apply fu; (exact .inr rfl); (focus (repeat' (first | (apply lc; (focus (conv => lhs; whnf); try exact rfl); (exact Wk.same _)) | exact iq))); exact rfl; (exact rfl); exact Nat.le_refl _; (focus (repeat' (first | exact trivial | refine ⟨?_, ?_⟩))); exact hso)
      exact ⟨rfl, rfl⟩
    | false =>
      rw [an3 F a puts name hn] at v2
      generalize ack F a F.length = ml at *
      repeat' (first | (apply bn; (first | (apply jq; (apply jc; exact (rfl : _ = some _); exact (rfl : _ = PV.bool _); (exact rfl))) | (apply bv; (apply bu (tt := tt); (focus (conv => lhs; whnf); try exact rfl); exact rfl)) | (apply ai; (apply az (tt := tt); (focus (conv => lhs; whnf); try exact rfl); exact rfl)) | (apply ji; (first | (refine cz (tt := tt) ajv (v1 _) rfl rfl rfl rfl rfl ?_) | (refine cz (tt := tt) ajv (v2 _) rfl rfl rfl rfl rfl ?_))) | (apply dw; (apply di true tab; (focus (conv => lhs; whnf; arg 1; whnf; arg 2; whnf); try exact rfl); (exact trivial); exact rfl)) | (apply kr; (apply ku (tt := tt); exact (rfl : _ = PV.bool _); (first | refine .inl ⟨rfl, ?_⟩ | refine .inr ⟨rfl, ?_⟩); (focus (conv => lhs; whnf); try exact rfl); exact ltn rfl)) | (apply jr; (apply ni tab; (focus (conv => lhs; whnf; arg 1; whnf; arg 2; whnf); try exact rfl); (exact trivial); exact rfl)) | (apply qy; (apply pu (tt := tt) true; (focus (conv => lhs; whnf; arg 1; whnf; arg 2; whnf); try exact rfl); (exact trivial); exact rfl)) | (apply iw; (apply iy (tt := tt); (focus (conv => lhs; whnf; arg 1; whnf; arg 2; whnf); try exact rfl); (exact trivial); exact rfl)) | (apply ak))) | (apply bq; (first | (apply bg) | (apply ah) | (apply dm; exact rfl; (assumption)) | (apply dn) | (apply oo))) | (apply bf) | (apply o9) | (apply pg))
      (change gu _ _ _ _ _ _ _; apply fu; (exact .inr rfl); (focus (repeat' (first | (apply lc; (focus (conv => lhs; whnf); try exact rfl); (exact Wk.same _)) | exact iq))); exact rfl; (exact rfl); exact Nat.le_refl _; (focus (repeat' (first | exact trivial | refine ⟨?_, ?_⟩))); exact hso)
      exact ⟨rfl, rfl⟩

end Go.Proofs.Ytbpjaiemlkcccaa.Pv
