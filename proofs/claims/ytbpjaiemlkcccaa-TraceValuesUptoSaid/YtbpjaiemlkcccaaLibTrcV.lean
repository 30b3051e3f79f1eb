
/- What a name was at a place, by the program. -/
import Derived.Test.YtbpjaiemlkcccaaLibK11
import Derived.Test.YtbpjaiemlkcccaaPvZy
namespace Go.Proofs.Ytbpjaiemlkcccaa.Pv
open Go
set_option linter.unusedVariables false
set_option linter.unusedSimpArgs false
set_option maxRecDepth 100000

abbrev Pt := Int × Int × ByteArray
def pt (p : Pt) : PV := .agg [.int .i64 p.1, .int .i64 p.2.1, .str p.2.2]
def isP (f : Ft) (p : Pt) : Bool := p.1 == f.client && p.2.1 == f.seq
def afi (puts : List Pt) (f : Ft) : ByteArray := if qc (isP f) puts < 0 then ⟨#[]⟩ else (puts.getD (qc (isP f) puts).toNat default).2.2
def acj (puts : List Pt) (v : ByteArray × Bool) (f : Ft) : ByteArray × Bool := if f.kind = 3 then (afi puts f, true) else if f.kind = 4 then (⟨#[]⟩, false) else v
def ofT (name : ByteArray) (a : Int) (f : Ft) : Prop := f.at_ < a ∧ f.name = name ∧ f.r.err = 0
instance (name : ByteArray) (a : Int) (f : Ft) : Decidable (ofT name a f) := inferInstanceAs (Decidable (_ ∧ _ ∧ _))
def ad1 (puts : List Pt) (name : ByteArray) (a : Int) (v : ByteArray × Bool) (f : Ft) : ByteArray × Bool := if ofT name a f then acj puts v f else v
def aau (F : List Ft) (puts : List Pt) (name : ByteArray) (a : Int) (i : Nat) (v : ByteArray × Bool) : ByteArray × Bool := (F.take i).foldl (ad1 puts name a) v
theorem aku {F : List Ft} {puts : List Pt} {name : ByteArray} {a : Int} {i : Nat} {v : ByteArray × Bool} (h : i < F.length) : aau F puts name a (i + 1) v = ad1 puts name a (aau F puts name a i v) (F.getD i default) := by
  unfold aau
  rw [List.take_succ_eq_append_getElem h, List.foldl_append, List.getD_eq_getElem?_getD, List.getElem?_eq_getElem h]; rfl


theorem aju {g : FuncId} {caps : List PV} (p : Pt → Bool) (xs : List (Pt)) (hl : xs.length ≤ 9223372036854775807) (σ : Sto) (hg : jd Try.prog g) (hf : ∀ x ∈ xs, jo Try.prog g (pt x :: caps) σ fun r σ' => r = .bool (p x) ∧ σ' = σ) (htup : (caps.all fun p => !p.isTup) = true) :
    jo Try.prog 35 [.sl .sh 3 (xs.map pt), .fn (.func g) [] caps] σ fun x σ' => x = .int .i64 (qc p xs) ∧ σ' = σ := by
  refine ny tab Try.func35 rfl (nlb rfl) (by decide) fun hso => ?_
  repeat' (first | (apply bn; (first | (apply bv; (apply bu (tt := tt); (focus (conv => lhs; whnf); try exact rfl); exact rfl)) | (apply ai; (apply az (tt := tt); (focus (conv => lhs; whnf); try exact rfl); exact rfl)) | (apply jr; (apply ni tab; (focus (conv => lhs; whnf; arg 1; whnf; arg 2; whnf); try exact rfl); (exact trivial); exact rfl)) | (apply ak))) | (apply bq; (first | (apply bg) | (apply ah) | (apply ed))) | (apply bf))
  refine ve (fun i : Nat => [(0, .sl .sh 3 (xs.map pt)), (1, .fn (.func g) [] caps), (7, .int .i64 xs.length), (8, .int .i64 i)]) (fun _ => σ) (fun i => i ≤ xs.length ∧ ∀ j, j < i → p (xs.getD j default) = false) (fun i => xs.length - i) 0 ⟨Nat.zero_le _, fun j hj => by omega⟩ ?_ rfl ?_
  · (repeat' (first | exact trivial | exact Wk.same _ | (refine Wk.eq ?_; (conv => rhs; whnf); simp <;> fail) | refine ⟨?_, ?_⟩))
  rintro i ⟨hi, hno⟩
  rcases Nat.lt_or_ge i xs.length with hlt | hge
  · have c1 : decide ((i : Int) < (xs.length : Int)) = true := by simp; omega
    repeat' (first | (apply bn; (first | (apply bv; (apply bu (tt := tt); (focus (conv => lhs; whnf); try exact rfl); exact rfl)) | (apply ai; (apply az (tt := tt); (focus (conv => lhs; whnf); try exact rfl); exact rfl)) | (apply dw; (apply di true tab; (focus (conv => lhs; whnf; arg 1; whnf; arg 2; whnf); try exact rfl); (exact trivial); exact rfl)) | (apply fq; (apply ou tab; (focus (conv => lhs; whnf; arg 1; whnf; arg 2; whnf); try skip); (exact nlb rfl); exact rfl)) | (apply j5; (refine lw (tI := 3) _ tab rfl (by (focus (conv => lhs; whnf); try exact rfl)) (by (focus (conv => lhs; whnf); try exact rfl)) rfl (by (omega)) (by (omega)) (by (focus (conv => lhs; whnf); try exact rfl)) (ltn rfl) ?_)) | (apply ak))) | (apply bq; (first | (apply bg) | (apply ah) | (apply df; exact rfl; (assumption)) | (apply gz) | (apply ed))) | (apply bf))
    refine adh (tt := tt) hg (hf _ (uq hlt)) rfl rfl rfl (by simpa [PV.isTup, pt] using htup) rfl ?_
    repeat' (first | (apply bn; (first | (apply bv; (apply bu (tt := tt); (focus (conv => lhs; whnf); try exact rfl); exact rfl)) | (apply ai; (apply az (tt := tt); (focus (conv => lhs; whnf); try exact rfl); exact rfl)) | (apply dw; (apply di true tab; (focus (conv => lhs; whnf; arg 1; whnf; arg 2; whnf); try exact rfl); (simp only [InR]; omega); exact rfl)) | (apply ak))) | (apply bq; (first | (apply bg) | (apply ah) | (apply qo; exact (rfl : _ = PV.bool _); all_goals intro hb) | (apply gz) | (apply dn))) | (apply bf) | (apply lq) | (apply ng) | (apply om))
    · (change gu _ _ _ _ _ _ _; apply fu; (exact .inr rfl); (focus (repeat' (first | (apply lc; (focus (conv => lhs; whnf); try exact rfl); (exact Wk.same _)) | exact iq))); exact rfl; (exact (List.append_nil _).symm); exact Nat.le_refl _; (focus (repeat' (first | exact trivial | refine ⟨?_, ?_⟩))); exact hso)
      exact ⟨by rw [aay hlt hno hb]; rfl, rfl⟩
    · refine ⟨i + 1, ⟨by omega, fun j hj => ?_⟩, by omega, ?_, rfl⟩
      · by_cases e : j = i
        · subst e; exact hb
        · exact hno j (by omega)
      · (repeat' (first | exact trivial | exact Wk.same _ | refine ⟨?_, ?_⟩))
  · have c1 : decide ((i : Int) < (xs.length : Int)) = false := by simp; omega
    repeat' (first | (apply bn; (first | (apply ai; (apply az (tt := tt); (focus (conv => lhs; whnf); try exact rfl); exact rfl)) | (apply dw; (apply di true tab; (focus (conv => lhs; whnf; arg 1; whnf; arg 2; whnf); try exact rfl); (exact trivial); exact rfl)) | (apply ak))) | (apply bq; (first | (apply bg) | (apply ah) | (apply dm; exact rfl; (assumption)) | (apply dn) | (apply oo))) | (apply bf) | (apply o9) | (apply pg))
    (change gu _ _ _ _ _ _ _; apply fu; (exact .inr rfl); (focus (repeat' (first | (apply lc; (focus (conv => lhs; whnf); try exact rfl); (exact Wk.same _)) | exact iq))); exact rfl; (exact (List.append_nil _).symm); exact Nat.le_refl _; (focus (repeat' (first | exact trivial | refine ⟨?_, ?_⟩))); exact hso)
    exact ⟨by rw [acs fun j hj => hno j (by omega)]; rfl, rfl⟩


theorem ajt (p : Pt) (f : Ft) (i : Nat) (σ : Sto) (hi : σ[i]? = some (.cells (ft f).cells)) : jo Try.prog 36 [pt p, .ptr i 0] σ fun x σ' => x = .bool (isP f p) ∧ σ' = σ := by
  refine ny tab Try.func36 rfl (nlb rfl) (by decide) fun hso => oh ?_
  unfold isP
  by_cases h : p.1 = f.client
  · have c1 : (p.1 == f.client) = true := beq_iff_eq.2 h
    rw [c1, Bool.true_and]
    repeat' (first | (apply bn; (first | (apply jq; (apply jc; exact (rfl : _ = some _); exact (rfl : _ = PV.bool _); (assumption))) | (apply bv; (apply bu (tt := tt); (focus (conv => lhs; whnf); try exact rfl); exact rfl)) | (apply ai; (apply az (tt := tt); (focus (conv => lhs; whnf); try exact rfl); exact rfl)) | (apply dw; (apply di true tab; (focus (conv => lhs; whnf; arg 1; whnf; arg 2; whnf); try exact rfl); (exact trivial); exact rfl)) | (apply kr; (apply ku (tt := tt); exact (rfl : _ = PV.bool _); (refine .inl ⟨by assumption, ?_⟩); (focus (conv => lhs; whnf); try exact rfl); exact ltn rfl)) | (apply fq; (first | (apply aa; (apply aj tab; exact rfl; exact rfl; exact rfl; (focus (conv => lhs; whnf; arg 1; whnf; arg 2; whnf); try skip); (exact trivial)); (intro c h; cases h); exact rfl) | (apply aa; (apply jb tab; exact rfl; exact rfl; (exact ag (by assumption)); (focus (conv => lhs; whnf; arg 1; whnf; arg 2; whnf); try skip); (exact trivial)); (intro c h; cases h); exact rfl))) | (apply cu; (apply aa; (apply af tab; exact rfl; (focus (conv => lhs; whnf); try exact rfl); exact rfl; (first | exact (rfl : _ = 0) | exact (rfl : _ = 1) | exact (rfl : _ = 2))); (intro c h; cases h); exact rfl)) | (apply lu; (apply kg (tt := tt); (focus (conv => lhs; whnf); try exact rfl); exact rfl; (exact (rfl : _ = 0)); exact rfl)) | (apply ak))) | (apply bq; (first | (apply bg) | (apply ah) | (apply dn))) | (apply bf))
    (change gu _ _ _ _ _ _ _; apply fu; (exact .inr rfl); (focus (repeat' (first | (apply lc; (focus (conv => lhs; whnf); try exact rfl); (exact Wk.same _)) | exact iq))); exact rfl; (exact rfl); exact Nat.le_refl _; (focus (repeat' (first | exact trivial | refine ⟨?_, ?_⟩))); exact hso)
    exact ⟨rfl, rfl⟩
  · have c1 : (p.1 == f.client) = false := beq_eq_false_iff_ne.2 h
    rw [c1, Bool.false_and]
    repeat' (first | (apply bn; (first | (apply jq; (apply ky; exact (rfl : _ = some _); exact (rfl : _ = PV.bool _); (assumption); exact ltn rfl)) | (apply bv; (apply bu (tt := tt); (focus (conv => lhs; whnf); try exact rfl); exact rfl)) | (apply ai; (apply az (tt := tt); (focus (conv => lhs; whnf); try exact rfl); exact rfl)) | (apply dw; (apply di true tab; (focus (conv => lhs; whnf; arg 1; whnf; arg 2; whnf); try exact rfl); (exact trivial); exact rfl)) | (apply kr; (apply ku (tt := tt); exact (rfl : _ = PV.bool _); (refine .inr ⟨by assumption, ?_⟩); (focus (conv => lhs; whnf); try exact rfl); exact ltn rfl)) | (apply fq; (first | (apply aa; (apply aj tab; exact rfl; exact rfl; exact rfl; (focus (conv => lhs; whnf; arg 1; whnf; arg 2; whnf); try skip); (exact trivial)); (intro c h; cases h); exact rfl) | (apply aa; (apply jb tab; exact rfl; exact rfl; (exact ag (by assumption)); (focus (conv => lhs; whnf; arg 1; whnf; arg 2; whnf); try skip); (exact trivial)); (intro c h; cases h); exact rfl))) | (apply cu; (apply aa; (apply af tab; exact rfl; (focus (conv => lhs; whnf); try exact rfl); exact rfl; (first | exact (rfl : _ = 0) | exact (rfl : _ = 1))); (intro c h; cases h); exact rfl)) | (apply lu; (apply kg (tt := tt); (focus (conv => lhs; whnf); try exact rfl); exact rfl; (exact (rfl : _ = 0)); exact rfl)) | (apply ak))) | (apply bq; (first | (apply bg) | (apply ah) | (apply dn))) | (apply bf))
    (change gu _ _ _ _ _ _ _; apply fu; (exact .inr rfl); (focus (repeat' (first | (apply lc; (focus (conv => lhs; whnf); try exact rfl); (exact Wk.same _)) | exact iq))); exact rfl; (exact rfl); exact Nat.le_refl _; (focus (repeat' (first | exact trivial | refine ⟨?_, ?_⟩))); exact hso)
    exact ⟨rfl, rfl⟩

def vEx (puts : List Pt) (F : List Ft) (name : ByteArray) (a : Int) (v : ByteArray × Bool) (lp : Ent) (ex : Sto) : Sto := .cells [.sl .sh 3 (puts.map pt)] :: .cells [.str v.1] :: .cells [.bool v.2] :: .cells [.sl .sh 11 (F.map ft)] :: .cells [.str name] :: .cells [.int .i64 a] :: lp :: ex

theorem aw3 (F : List Ft) (name : ByteArray) (a : Int) (σ : Sto) : jo Try.prog 34 [.sl .sh 11 (F.map ft), .str name, .int .i64 a] σ fun x s => x = .fn (.func 53) [] [.ptr (σ.length + 0) 0, .ptr (σ.length + 2) 0, .ptr (σ.length + 1) 0] ∧ s = σ ++ [.cells [.sl .sh 11 (F.map ft)], .cells [.str name], .cells [.int .i64 a]] := by
  refine ny tab Try.func34 rfl (nlb rfl) (by decide) fun hso => oh ?_
  repeat' (first | (apply bn; (first | (apply ai; (apply az (tt := tt); (focus (conv => lhs; whnf); try exact rfl); exact rfl)) | (apply qd; (apply aa; (apply dx (tt := tt); exact rfl; exact rfl; (focus (conv => lhs; whnf); try exact rfl)); (intro c h; cases h); exact rfl)) | (apply lu; (apply kg (tt := tt); (focus (conv => lhs; whnf); try exact rfl); exact rfl; (first | exact (rfl : _ = 0) | exact (rfl : _ = 1) | exact (rfl : _ = 2)); exact rfl)) | (apply ak))) | (apply bq; (first | (apply bg) | (apply ah) | (apply dn))) | (apply bf))
  change gu _ _ _ _ _ _ _
  refine fu (ex := []) (τ := σ ++ [.cells [.sl .sh 11 (F.map ft)], .cells [.str name], .cells [.int .i64 a]]) [PV.fn (.func 53) [] [.ptr (σ.length + 0) 0, .ptr (σ.length + 2) 0, .ptr (σ.length + 1) 0]] (by first | exact .inl rfl | exact .inr rfl) ⟨Wk.same _, trivial⟩ rfl (List.append_nil _).symm (by simp) ?_ ?_ ⟨rfl, rfl⟩
  · simp [o6, PV.lt]
  · exact um hso (by simp [Ent.lt, o6, PV.lt])

theorem arn {puts : List Pt} {F : List Ft} {name : ByteArray} {a : Int} {v v' : ByteArray × Bool} {lp : Ent} {σ : Sto} (h : xh (σ ++ vEx puts F name a v lp [])) : xh (σ ++ vEx puts F name a v' lp []) := by
  have hl : (σ ++ vEx puts F name a v' lp []).length = (σ ++ vEx puts F name a v lp []).length := by simp [vEx]
  intro i e hi
  rw [hl]
  have h0 := h i
  by_cases h1 : i < σ.length
  · rw [List.getElem?_append_left h1] at hi h0
    exact h0 e hi
  · rw [List.getElem?_append_right (by omega)] at hi h0
    match hj : i - σ.length with
    | 0 => rw [hj] at hi h0; exact h0 e hi
    | 1 => rw [hj] at hi; cases hi; exact ⟨trivial, trivial⟩
    | 2 => rw [hj] at hi; cases hi; exact ⟨trivial, trivial⟩
    | 3 => rw [hj] at hi h0; exact h0 e hi
    | 4 => rw [hj] at hi h0; exact h0 e hi
    | 5 => rw [hj] at hi h0; exact h0 e hi
    | 6 => rw [hj] at hi h0; exact h0 e hi
    | j + 7 => rw [hj] at hi; cases hi

set_option maxHeartbeats 2000000 in
theorem avl (puts : List Pt) (F : List Ft) (name : ByteArray) (a : Int) (hF : F.length ≤ 1048576) (v0 : ByteArray × Bool) (σ : Sto) (rcd : Loop) (E0 : Env) (hE : ∀ t, (look E0 t).lt (σ.length + 7))
    (hy : ∀ (v : ByteArray × Bool) (f : Ft), aea Try.prog (σ.length + 6) [ft f] (σ ++ vEx puts F name a v (.loop .ready none rcd E0) [.cells (ft f).cells]) fun b s => b = true ∧ ∃ ex, s = σ ++ vEx puts F name a (acj puts v f) (.loop .ready none rcd E0) ex) :
    jo Try.prog 53 [.yld (σ.length + 6), .ptr (σ.length + 3) 0, .ptr (σ.length + 5) 0, .ptr (σ.length + 4) 0] (σ ++ vEx puts F name a v0 (.loop .ready none rcd E0) []) fun x s => x = .tup [] ∧ s = σ ++ vEx puts F name a (aau F puts name a F.length v0) (.loop .ready none rcd E0) [] := by
  refine ny tab Try.func53 rfl (nlb rfl) (by decide) fun hso => ?_
  have hso' := fun v' => arn (v' := v') hso
  repeat' (first | (apply bn; (first | (apply bv; (apply bu (tt := tt); (focus (conv => lhs; whnf); try exact rfl); exact rfl)) | (apply fq; (apply aa; (apply aj tab; exact rfl; exact rfl; exact rfl; (focus (conv => lhs; whnf; arg 1; whnf; arg 2; whnf); try skip); (exact trivial)); (intro c h; cases h); exact rfl)) | (apply jr; (apply ni tab; (focus (conv => lhs; whnf; arg 1; whnf; arg 2; whnf); try exact rfl); (exact trivial); exact rfl)) | (apply ak))) | (apply bq; (first | (apply bg) | (apply ah) | (apply ed))) | (apply bf))
  refine acn (fun i : Nat => [(0, .yld (σ.length + 6)), (1, .ptr (σ.length + 3) 0), (2, .ptr (σ.length + 5) 0), (3, .ptr (σ.length + 4) 0), (7, .sl .sh 11 (F.map ft)), (8, .int .i64 F.length), (9, .int .i64 i)]) (fun i => σ ++ vEx puts F name a (aau F puts name a i v0) (.loop .ready none rcd E0) []) (fun i => i ≤ F.length) (fun i => F.length - i) 0 (Nat.zero_le _) ?_ rfl ?_
  · rw [← List.length_map (f := ft)]
    (repeat' (first | exact trivial | exact Wk.same _ | refine ⟨?_, ?_⟩))
  intro i hi
  generalize hv : aau F puts name a i v0 = v at *
  rcases Nat.lt_or_ge i F.length with hlt | hge
  · have c1 : decide ((i : Int) < (F.length : Int)) = true := decide_eq_true (by omega)
    have hstep := aku (puts := puts) (name := name) (a := a) (v := v0) hlt
    rw [hv] at hstep
    have fin : ∀ ex, ∃ ex', σ ++ vEx puts F name a (aau F puts name a (i + 1) v0) (.loop .ready none rcd E0) ex = (σ ++ vEx puts F name a (aau F puts name a (i + 1) v0) (.loop .ready none rcd E0) []) ++ ex' ∧
        agn (σ ++ vEx puts F name a v0 (.loop .ready none rcd E0) []).length [(0, .yld (σ.length + 6)), (1, .ptr (σ.length + 3) 0), (2, .ptr (σ.length + 5) 0), (3, .ptr (σ.length + 4) 0), (7, .sl .sh 11 (F.map ft)), (8, .int .i64 F.length), (9, .int .i64 ((i + 1 : Nat) : Int))] (σ ++ vEx puts F name a (aau F puts name a (i + 1) v0) (.loop .ready none rcd E0) []) ex' := fun ex =>
      uo 7 rfl (by simp [vEx]) (hso' _) (vw (by simp [PV.lt, vEx]))
    by_cases h1 : (F.getD i default).at_ < a
    · have e1 : decide ((F.getD ((i : Nat) : Int).toNat default).at_ < a) = true := decide_eq_true (by simp only [Int.toNat_natCast]; exact h1)
      by_cases h2 : (F.getD i default).name = name
      · have e2 : wm (F.getD ((i : Nat) : Int).toNat default).name name = true := by simp only [Int.toNat_natCast]; exact aa8.2 h2
        by_cases h3 : (F.getD i default).r.err = 0
        · have e3 : ((F.getD ((i : Nat) : Int).toNat default).r.err == 0) = true := by simp only [Int.toNat_natCast]; exact beq_iff_eq.2 h3
          have hs : ad1 puts name a v (F.getD i default) = acj puts v (F.getD i default) := if_pos ⟨h1, h2, h3⟩
          have hy' := hy v (F.getD ((i : Nat) : Int).toNat default)
          unfold vEx
          unfold vEx at hy'
          repeat' (first | (apply bn; (first | (apply jq; (apply jc; exact (rfl : _ = some _); exact (rfl : _ = PV.bool _); (assumption))) | (apply bv; (apply bu (tt := tt); (focus (conv => lhs; whnf); try exact rfl); exact rfl)) | (apply dw; (apply di true tab; (focus (conv => lhs; whnf; arg 1; whnf; arg 2; whnf); try exact rfl); (exact trivial); exact rfl)) | (apply kr; (apply ku (tt := tt); exact (rfl : _ = PV.bool _); (refine .inl ⟨by assumption, ?_⟩); (focus (conv => lhs; whnf); try exact rfl); exact ltn rfl)) | (apply fq; (first | (apply aa; (apply aj tab; exact rfl; exact rfl; exact rfl; (focus (conv => lhs; whnf; arg 1; whnf; arg 2; whnf); try skip); (first | exact trivial | exact nlb rfl)); (intro c h; cases h); exact rfl) | (apply ou tab; (focus (conv => lhs; whnf; arg 1; whnf; arg 2; whnf); try skip); (exact nlb rfl); exact rfl))) | (apply j5; (refine lw (tI := 3) _ tab rfl (by (focus (conv => lhs; whnf); try exact rfl)) (by (focus (conv => lhs; whnf); try exact rfl)) rfl (by (omega)) (by (omega)) (by (focus (conv => lhs; whnf); try exact rfl)) (ltn rfl) ?_)) | (apply cu; (apply aa; (apply af tab; exact rfl; (focus (conv => lhs; whnf); try exact rfl); exact rfl; (first | exact (rfl : _ = 0) | exact (rfl : _ = 4) | exact (rfl : _ = 5))); (intro c h; cases h); exact rfl)) | (apply gq; (apply dz tab; exact rfl; exact rfl; exact rfl; exact rfl; exact rfl; exact rfl; exact rfl; exact rfl)) | (apply je; (apply ik tab; exact rfl; exact rfl; (exact (rfl : _ = 7)); exact rfl)) | (apply ak))) | (apply bq; (first | (apply bg) | (apply ah) | (apply df; exact rfl; (assumption)) | (apply gz) | (apply ed))) | (apply bf))
          refine ate (tt := tt) rfl rfl (by decide) rfl hy' (ltn rfl) ?_
          rintro b s ⟨rfl, ex, rfl⟩
          repeat' (first | (apply bn; (first | (apply jq; (apply jc; exact (rfl : _ = some _); exact (rfl : _ = PV.bool _); (assumption))) | (apply bv; (apply bu (tt := tt); (focus (conv => lhs; whnf); try exact rfl); exact rfl)) | (apply dw; (apply di true tab; (focus (conv => lhs; whnf; arg 1; whnf; arg 2; whnf); try exact rfl); (simp only [InR]; omega); exact rfl)) | (apply kr; (apply ku (tt := tt); exact (rfl : _ = PV.bool _); (refine .inl ⟨by assumption, ?_⟩); (focus (conv => lhs; whnf); try exact rfl); exact ltn rfl)) | (apply qy; (apply pu (tt := tt) true; (focus (conv => lhs; whnf; arg 1; whnf; arg 2; whnf); try exact rfl); (exact trivial); exact rfl)) | (apply ak))) | (apply bq; (first | (apply ah) | (apply dm; exact rfl; (exact rfl)) | (apply gz))) | (apply bf) | (apply ng))
          refine ⟨i + 1, by omega, by omega, ?_, ?_⟩
          · (repeat' (first | exact trivial | exact Wk.same _ | refine ⟨?_, ?_⟩))
          · have := fin ex
            rw [hstep, hs] at this ⊢
            rw [Int.toNat_natCast]
            exact this
        · have e3 : ((F.getD ((i : Nat) : Int).toNat default).r.err == 0) = false := by simp only [Int.toNat_natCast]; exact beq_eq_false_iff_ne.2 h3
          have hs : ad1 puts name a v (F.getD i default) = v := if_neg (fun h => h3 h.2.2)
          unfold vEx
          repeat' (first | (apply bn; (first | (apply jq; (first | (apply jc; exact (rfl : _ = some _); exact (rfl : _ = PV.bool _); (assumption)) | (apply ky; exact (rfl : _ = some _); exact (rfl : _ = PV.bool _); (assumption); exact ltn rfl))) | (apply bv; (apply bu (tt := tt); (focus (conv => lhs; whnf); try exact rfl); exact rfl)) | (apply dw; (apply di true tab; (focus (conv => lhs; whnf; arg 1; whnf; arg 2; whnf); try exact rfl); (first | exact trivial | (simp only [InR]; omega)); exact rfl)) | (apply kr; (apply ku (tt := tt); exact (rfl : _ = PV.bool _); (first | refine .inl ⟨by assumption, ?_⟩ | refine .inr ⟨by assumption, ?_⟩); (focus (conv => lhs; whnf); try exact rfl); exact ltn rfl)) | (apply fq; (first | (apply aa; (apply aj tab; exact rfl; exact rfl; exact rfl; (focus (conv => lhs; whnf; arg 1; whnf; arg 2; whnf); try skip); (exact trivial)); (intro c h; cases h); exact rfl) | (apply ou tab; (focus (conv => lhs; whnf; arg 1; whnf; arg 2; whnf); try skip); (exact nlb rfl); exact rfl))) | (apply j5; (refine lw (tI := 3) _ tab rfl (by (focus (conv => lhs; whnf); try exact rfl)) (by (focus (conv => lhs; whnf); try exact rfl)) rfl (by (omega)) (by (omega)) (by (focus (conv => lhs; whnf); try exact rfl)) (ltn rfl) ?_)) | (apply cu; (apply aa; (apply af tab; exact rfl; (focus (conv => lhs; whnf); try exact rfl); exact rfl; (first | exact (rfl : _ = 0) | exact (rfl : _ = 4) | exact (rfl : _ = 5))); (intro c h; cases h); exact rfl)) | (apply gq; (apply dz tab; exact rfl; exact rfl; exact rfl; exact rfl; exact rfl; exact rfl; exact rfl; exact rfl)) | (apply je; (apply ik tab; exact rfl; exact rfl; (exact (rfl : _ = 7)); exact rfl)) | (apply ak))) | (apply bq; (first | (apply bg) | (apply ah) | (apply df; exact rfl; (assumption)) | (apply dm; exact rfl; (exact rfl)) | (apply gz) | (apply ed))) | (apply bf) | (apply ng))
          refine ⟨i + 1, by omega, by omega, ?_, ?_⟩
          · (repeat' (first | exact trivial | exact Wk.same _ | refine ⟨?_, ?_⟩))
          · have := fin [.cells (ft (F.getD ((i : Nat) : Int).toNat default)).cells]
            rw [hstep, hs] at this ⊢
            exact this
      · have e2 : wm (F.getD ((i : Nat) : Int).toNat default).name name = false := by
          simp only [Int.toNat_natCast]
          cases hb : wm (F.getD i default).name name with
          | false => rfl
          | true => exact absurd (aa8.1 hb) h2
        have hs : ad1 puts name a v (F.getD i default) = v := if_neg (fun h => h2 h.2.1)
        unfold vEx
        repeat' (first | (apply bn; (first | (apply jq; (first | (apply jc; exact (rfl : _ = some _); exact (rfl : _ = PV.bool _); (assumption)) | (apply ky; exact (rfl : _ = some _); exact (rfl : _ = PV.bool _); (first | exact rfl | assumption); exact ltn rfl))) | (apply bv; (apply bu (tt := tt); (focus (conv => lhs; whnf); try exact rfl); exact rfl)) | (apply dw; (apply di true tab; (focus (conv => lhs; whnf; arg 1; whnf; arg 2; whnf); try exact rfl); (first | exact trivial | (simp only [InR]; omega)); exact rfl)) | (apply kr; (apply ku (tt := tt); exact (rfl : _ = PV.bool _); (first | refine .inr ⟨rfl, ?_⟩ | refine .inl ⟨by assumption, ?_⟩ | refine .inr ⟨by assumption, ?_⟩); (focus (conv => lhs; whnf); try exact rfl); exact ltn rfl)) | (apply fq; (first | (apply aa; (apply aj tab; exact rfl; exact rfl; exact rfl; (focus (conv => lhs; whnf; arg 1; whnf; arg 2; whnf); try skip); (exact trivial)); (intro c h; cases h); exact rfl) | (apply ou tab; (focus (conv => lhs; whnf; arg 1; whnf; arg 2; whnf); try skip); (exact nlb rfl); exact rfl))) | (apply j5; (refine lw (tI := 3) _ tab rfl (by (focus (conv => lhs; whnf); try exact rfl)) (by (focus (conv => lhs; whnf); try exact rfl)) rfl (by (omega)) (by (omega)) (by (focus (conv => lhs; whnf); try exact rfl)) (ltn rfl) ?_)) | (apply cu; (apply aa; (apply af tab; exact rfl; (focus (conv => lhs; whnf); try exact rfl); exact rfl; (first | exact (rfl : _ = 0) | exact (rfl : _ = 4))); (intro c h; cases h); exact rfl)) | (apply gq; (apply dz tab; exact rfl; exact rfl; exact rfl; exact rfl; exact rfl; exact rfl; exact rfl; exact rfl)) | (apply je; (apply ik tab; exact rfl; exact rfl; (exact (rfl : _ = 7)); exact rfl)) | (apply ak))) | (apply bq; (first | (apply bg) | (apply ah) | (apply df; exact rfl; (assumption)) | (apply dm; exact rfl; (exact rfl)) | (apply gz) | (apply ed))) | (apply bf) | (apply ng))
        refine ⟨i + 1, by omega, by omega, ?_, ?_⟩
        · (repeat' (first | exact trivial | exact Wk.same _ | refine ⟨?_, ?_⟩))
        · have := fin [.cells (ft (F.getD ((i : Nat) : Int).toNat default)).cells]
          rw [hstep, hs] at this ⊢
          exact this
    · have e1 : decide ((F.getD ((i : Nat) : Int).toNat default).at_ < a) = false := decide_eq_false (by simp only [Int.toNat_natCast]; exact h1)
      have hs : ad1 puts name a v (F.getD i default) = v := if_neg (fun h => h1 h.1)
      unfold vEx
      repeat' (first | (apply bn; (first | (apply jq; (apply ky; exact (rfl : _ = some _); exact (rfl : _ = PV.bool _); (first | exact rfl | assumption); exact ltn rfl)) | (apply bv; (apply bu (tt := tt); (focus (conv => lhs; whnf); try exact rfl); exact rfl)) | (apply dw; (apply di true tab; (focus (conv => lhs; whnf; arg 1; whnf; arg 2; whnf); try exact rfl); (first | exact trivial | (simp only [InR]; omega)); exact rfl)) | (apply kr; (apply ku (tt := tt); exact (rfl : _ = PV.bool _); (first | refine .inr ⟨rfl, ?_⟩ | refine .inr ⟨by assumption, ?_⟩); (focus (conv => lhs; whnf); try exact rfl); exact ltn rfl)) | (apply fq; (first | (apply aa; (apply aj tab; exact rfl; exact rfl; exact rfl; (focus (conv => lhs; whnf; arg 1; whnf; arg 2; whnf); try skip); (exact trivial)); (intro c h; cases h); exact rfl) | (apply ou tab; (focus (conv => lhs; whnf; arg 1; whnf; arg 2; whnf); try skip); (exact nlb rfl); exact rfl))) | (apply j5; (refine lw (tI := 3) _ tab rfl (by (focus (conv => lhs; whnf); try exact rfl)) (by (focus (conv => lhs; whnf); try exact rfl)) rfl (by (omega)) (by (omega)) (by (focus (conv => lhs; whnf); try exact rfl)) (ltn rfl) ?_)) | (apply cu; (apply aa; (apply af tab; exact rfl; (focus (conv => lhs; whnf); try exact rfl); exact rfl; (exact (rfl : _ = 0))); (intro c h; cases h); exact rfl)) | (apply gq; (apply dz tab; exact rfl; exact rfl; exact rfl; exact rfl; exact rfl; exact rfl; exact rfl; exact rfl)) | (apply je; (apply ik tab; exact rfl; exact rfl; (exact (rfl : _ = 7)); exact rfl)) | (apply ak))) | (apply bq; (first | (apply bg) | (apply ah) | (apply df; exact rfl; (assumption)) | (apply dm; exact rfl; (exact rfl)) | (apply gz) | (apply ed))) | (apply bf) | (apply ng))
      refine ⟨i + 1, by omega, by omega, ?_, ?_⟩
      · (repeat' (first | exact trivial | exact Wk.same _ | refine ⟨?_, ?_⟩))
      · have := fin [.cells (ft (F.getD ((i : Nat) : Int).toNat default)).cells]
        rw [hstep, hs] at this ⊢
        exact this
  · have c1 : decide ((i : Int) < (F.length : Int)) = false := decide_eq_false (by omega)
    have hii : i = F.length := by omega
    subst hii
    repeat' (first | (apply bn; (first | (apply dw; (apply di true tab; (focus (conv => lhs; whnf; arg 1; whnf; arg 2; whnf); try exact rfl); (exact trivial); exact rfl)) | (apply ak))) | (apply bq; (first | (apply bg) | (apply ah) | (apply dm; exact rfl; (assumption)) | (apply oo))) | (apply bf) | (apply o9) | (apply pg))
    (change gu _ _ _ _ _ _ _; apply ave; (exact .inl rfl); exact rfl)
    exact ⟨rfl, by rw [hv]⟩

end Go.Proofs.Ytbpjaiemlkcccaa.Pv
