import Derived.Test.YtbpjaiemlkcccaaPvZx
import Derived.Test.YtbpjaiemlkcccaaLibK0
import Derived.Test.YtbpjaiemlkcccaaLibK9
import Derived.Test.YtbpjaiemlkcccaaLibK7
import Derived.Test.YtbpjaiemlkcccaaTy
import Derived.Test.YtbpjaiemlkcccaaEq
import Derived.Test.YtbpjaiemlkcccaaPvZu
set_option linter.unusedVariables false
set_option linter.unusedSimpArgs false
section
/- The closure that recovers, of index.Take. -/
namespace Go.Proofs.Ytbpjaiemlkcccaa.Pv
open Go
set_option maxRecDepth 100000
abbrev aic : List PanicEntry := [{ v := .iface 102 (.agg #[]), recovered := false }]
abbrev ar8 : List PanicEntry := [{ v := .iface 102 (.agg #[]), recovered := true }]
abbrev afw : List PV := [.int .i64 0, .int .i64 0, .int .i64 0, .str ByteArray.empty, .int .i64 0, .int .i64 0, .int .i64 0, .int .u32 0, .int .i64 0, .int .i64 0, .int .i64 0, .sl .sh 2 []]
theorem ak6 {cs vs : List PV} (h : vs.length = cs.length) : putAt cs 0 vs = vs := by
  obtain ⟨q1, q2⟩ := aax cs 0 vs (by omega)
  refine List.ext_getElem? fun j => ?_
  rw [q2]
  by_cases hj : j < vs.length
  · rw [if_pos ⟨Nat.zero_le _, by omega⟩, Nat.sub_zero]
  · rw [if_neg (by omega), List.getElem?_eq_none (by omega), List.getElem?_eq_none (by omega)]
theorem ar0 {σ rest : Sto} {C E C' E' : List PV} (h : xh (σ ++ .cells C :: .cells E :: rest)) (hC : o6 0 C') (hE : o6 0 E') : xh (σ ++ .cells C' :: .cells E' :: rest) := by
  have hl : (σ ++ .cells C' :: .cells E' :: rest).length = (σ ++ .cells C :: .cells E :: rest).length := by simp
  have up : ∀ {l : List PV} {k : Nat}, o6 0 l → o6 k l := fun h => by rw [mo] at h ⊢; exact fun v hv => zh (Nat.zero_le _) (h v hv)
  intro i e hi
  rw [hl]
  by_cases h1 : i < σ.length
  · rw [List.getElem?_append_left h1] at hi
    exact h i e (by rw [List.getElem?_append_left h1]; exact hi)
  · rw [List.getElem?_append_right (by omega)] at hi
    have h0 := h i
    rw [List.getElem?_append_right (by omega)] at h0
    cases hj : i - σ.length with
    | zero => rw [hj] at hi; cases hi; exact up hC
    | succ j => cases j with
      | zero => rw [hj] at hi; cases hi; exact up hE
      | succ j => rw [hj] at hi h0; exact h0 e hi
theorem asa (s : Sto) (cs : List PV) (h2 : cs.length = 2) : ag9 Try.prog 40 cs s s .returning .returning := by
  refine aio tab Try.func40 rfl (by rw [h2]; exact nlb rfl) (by decide) (ltn rfl) (ltn rfl) (.inl ⟨rfl, rfl, rfl⟩) fun hso => ?_
  refine afh (acd rfl ?_)
  repeat' (apply bn; (apply bv; (apply bu (tt := tt); (focus (conv => lhs; whnf); try exact rfl); exact rfl)))
  refine aa (ap4 (tt := tt) Try.underlying20 rfl) (by simp) rfl ?_
  refine ak (bf ?_)
  refine ah7 (b := false) rfl (by intro h; cases h) fun _ => ak1 ?_
  exact fu (tt := tt) (ex := []) [] (.inl rfl) trivial rfl (List.append_nil _).symm (Nat.le_refl _) trivial hso rfl
theorem arb (σ rest : Sto) (C E : List PV) (hC : C.length = 12) (hE : E.length = 1) :
    ag9 Try.prog 40 [.ptr (σ.length + 0) 0, .ptr (σ.length + 1) 0] (σ ++ .cells C :: .cells E :: rest) (σ ++ .cells afw :: .cells [.int .i64 3] :: rest) (.panicking aic) (.panicking ar8) := by
  refine aio tab Try.func40 rfl (nlb rfl) (by decide) (ltn rfl) (ltn rfl) (.inr ⟨_, _, _, rfl, rfl, rfl⟩) fun hso => ?_
  refine afh (acd rfl ?_)
  repeat' (apply bn; (apply bv; (apply bu (tt := tt); (focus (conv => lhs; whnf); try exact rfl); exact rfl)))
  refine aa (ape (tt := tt) Try.underlying20 rfl) (by simp) rfl ?_
  refine ak (bf ?_)
  refine ah7 (b := true) rfl (fun _ => ?_) (by intro h; cases h)
  refine afh (afh (acd rfl ?_))
  repeat' (apply bn; (apply bv; (apply bu (tt := tt); (focus (conv => lhs; whnf); try exact rfl); exact rfl)))
  refine aa (aqa (tt := tt) Try.underlying102 rfl) (by simp) rfl ?_
  repeat' (apply bn; (first | (apply bv; (apply bu (tt := tt); (focus (conv => lhs; whnf); try exact rfl); exact rfl)) | (apply iw; (apply iy (tt := tt); (focus (conv => lhs; whnf; arg 1; whnf; arg 2; whnf); try exact rfl); (exact trivial); exact rfl))))
  refine am1 tab rfl (ltn rfl) ?_
  refine dz (τ := σ ++ .cells C :: .cells E :: rest) (ex := [.cells []]) (k := 0) (off := 0) (cs := []) (p := .agg []) tab rfl rfl rfl rfl rfl rfl rfl rfl ?_
  repeat' (first | (apply bn; (first | (apply ai; (apply az (tt := tt); (focus (conv => lhs; whnf); try exact rfl); exact rfl)) | (apply ak))) | (apply bf))
  refine afh (acd rfl ?_)
  repeat' (first | (apply bn; (first | (apply bv; (apply bu (tt := tt); (focus (conv => lhs; whnf); try exact rfl); exact rfl)) | (apply qy; (apply pu (tt := tt) true; (focus (conv => lhs; whnf; arg 1; whnf; arg 2; whnf); try exact rfl); (exact trivial); exact rfl)) | (apply ak))) | (apply bf))
  refine (ah7 (b := false) rfl (by intro h; cases h) fun _ => ak1 ?_)
  refine bf ?_
  refine (acd rfl ?_)
  have e0 : (σ ++ .cells C :: .cells E :: rest) ++ [Ent.cells []].set 0 (.cells (putAt [] 0 (PV.agg []).cells)) = σ ++ (.cells C :: .cells E :: (rest ++ [Ent.cells []])) := by
    rw [List.append_assoc]; rfl
  refine zk e0 ?_
  repeat' (apply bn; (apply pq; (apply aa; (apply gy tab; exact rfl; (focus (conv => lhs; whnf; arg 1; whnf; arg 2; whnf); try skip)); (intro c h; cases h); exact rfl)))
  refine dz (τ := σ) (k := 0) (off := 0) (cs := C) (p := .agg afw) tab rfl rfl rfl rfl rfl rfl rfl (by rw [hC]; rfl) ?_
  refine dz (τ := σ) (k := 1) (off := 0) (cs := E) (p := .int .i64 3) tab rfl rfl rfl rfl rfl rfl rfl (by rw [hE]; rfl) ?_
  refine ak ?_
  have e1 : putAt C 0 (PV.agg afw).cells = afw := ak6 (by rw [hC]; rfl)
  have e2 : putAt E 0 (PV.int .i64 3).cells = [.int .i64 3] := ak6 (by rw [hE]; rfl)
  have e3 : σ ++ ((.cells C :: .cells E :: (rest ++ [Ent.cells []])).set 0 (.cells (putAt C 0 (PV.agg afw).cells))).set 1 (.cells (putAt E 0 (PV.int .i64 3).cells)) = (σ ++ .cells afw :: .cells [.int .i64 3] :: rest) ++ [Ent.cells []] := by
    rw [e1, e2, List.append_assoc]; rfl
  exact fu (tt := tt) (τ := σ ++ .cells afw :: .cells [.int .i64 3] :: rest) (ex := [.cells []]) [] (.inl rfl) trivial rfl e3 (by simp) trivial (ar0 hso (by simp [o6, PV.lt]) (by simp [o6, PV.lt])) rfl
end Go.Proofs.Ytbpjaiemlkcccaa.Pv
end
section
/- A number off a reader; one that is none is thrown. -/
namespace Go.Proofs.Ytbpjaiemlkcccaa.Pv
open Go
set_option maxRecDepth 100000
def okN (s : ByteArray) (top : Nat) : Prop := (takeN s).2.2 = 0 ∧ (takeN s).1 ≤ top
instance (s : ByteArray) (top : Nat) : Decidable (okN s top) := inferInstanceAs (Decidable (_ ∧ _))
theorem at7 (s : ByteArray) (top : Nat) (hs : s.size ≤ 9223372036854775807) (ht : top ≤ 4294967296) (σ : Sto) :
    aa5 Try.prog 41 [.ptr (σ.length + 0) 0, .int .u64 top] (σ ++ [.cells [.str s]]) (fun x s' => okN s top ∧ x = .int .i64 (takeN s).1 ∧ s' = σ ++ [.cells [.str (takeN s).2.1]]) fun ch s' => ¬ okN s top ∧ ch = aic ∧ s' = σ ++ [.cells [.str s]] := by
  refine au8 tab Try.func41 rfl (nlb rfl) (by decide) fun hso => ?_
  have hq := aim s hs
  unfold okN
  generalize takeN s = q at *
  obtain ⟨v, r, e⟩ := q
  dsimp only at *
  by_cases h1 : e = 0
  · have c1 : (e != 0) = false := by simpa using h1
    by_cases h2 : v ≤ top
    · have c2 : decide ((top : Int) < (v : Int)) = false := decide_eq_false (by omega)
      repeat' (first | (apply bn; (first | (apply jq; (apply jc; exact (rfl : _ = some _); exact (rfl : _ = PV.bool _); (assumption))) | (apply bv; (apply bu (tt := tt); (focus (conv => lhs; whnf); try exact rfl); exact rfl)) | (apply ai; (apply az (tt := tt); (focus (conv => lhs; whnf); try exact rfl); exact rfl)) | (apply ji; (refine cz (tt := tt) ags (hq _) rfl rfl rfl rfl rfl ?_)) | (apply dw; (apply di true tab; (focus (conv => lhs; whnf; arg 1; whnf; arg 2; whnf); try exact rfl); (exact trivial); exact rfl)) | (apply kr; (apply ku (tt := tt); exact (rfl : _ = PV.bool _); (refine .inr ⟨by assumption, ?_⟩); (focus (conv => lhs; whnf); try exact rfl); exact ltn rfl)) | (apply fq; (apply aa; (apply aj tab; exact rfl; exact rfl; exact rfl; (focus (conv => lhs; whnf; arg 1; whnf; arg 2; whnf); try skip); (exact trivial)); (intro c h; cases h); exact rfl)) | (apply cu; (apply aa; (apply af tab; exact rfl; (focus (conv => lhs; whnf); try exact rfl); exact rfl; (exact (rfl : _ = 0))); (intro c h; cases h); exact rfl)) | (apply tq; (apply pz true tab; (focus (conv => lhs; whnf; arg 1; whnf; arg 2; whnf); try exact rfl); (simp only [InR]; omega); exact rfl)) | (apply iw; (apply iy (tt := tt); (focus (conv => lhs; whnf; arg 1; whnf; arg 2; whnf); try exact rfl); (exact trivial); exact rfl)) | (apply gq; (apply dz tab; exact rfl; exact rfl; exact rfl; exact rfl; exact rfl; exact rfl; exact rfl; exact rfl)) | (apply wu; (apply aa; (apply wy (tt := tt); (focus (conv => lhs; whnf); try exact rfl)); (intro c h; cases h); exact rfl)) | (apply ak))) | (apply bq; (first | (apply bg) | (apply ah) | (apply dm; exact rfl; (assumption)) | (apply gz) | (apply dn))) | (apply bf))
      refine .inl ?_
      (change gu _ _ _ _ _ _ _; apply avj; (exact .inr rfl); (focus (repeat' (first | (apply lc; (focus (conv => lhs; whnf); try exact rfl); (exact Wk.same _)) | exact iq))); exact rfl; exact rfl; exact hso; (focus (repeat' (exact And.intro trivial trivial))); (focus (repeat' (exact And.intro trivial trivial))))
      exact ⟨⟨h1, h2⟩, rfl, rfl⟩
    · have c2 : decide ((top : Int) < (v : Int)) = true := decide_eq_true (by omega)
      repeat' (first | (apply bn; (first | (apply jq; (apply jc; exact (rfl : _ = some _); exact (rfl : _ = PV.bool _); (assumption))) | (apply bv; (apply bu (tt := tt); (focus (conv => lhs; whnf); try exact rfl); exact rfl)) | (apply ai; (apply az (tt := tt); (focus (conv => lhs; whnf); try exact rfl); exact rfl)) | (apply ji; (refine cz (tt := tt) ags (hq _) rfl rfl rfl rfl rfl ?_)) | (apply dw; (apply di true tab; (focus (conv => lhs; whnf; arg 1; whnf; arg 2; whnf); try exact rfl); (exact trivial); exact rfl)) | (apply kr; (apply ku (tt := tt); exact (rfl : _ = PV.bool _); (refine .inr ⟨by assumption, ?_⟩); (focus (conv => lhs; whnf); try exact rfl); exact ltn rfl)) | (apply fq; (apply aa; (apply aj tab; exact rfl; exact rfl; exact rfl; (focus (conv => lhs; whnf; arg 1; whnf; arg 2; whnf); try skip); (exact trivial)); (intro c h; cases h); exact rfl)) | (apply cu; (apply aa; (apply af tab; exact rfl; (focus (conv => lhs; whnf); try exact rfl); exact rfl; (exact (rfl : _ = 0))); (intro c h; cases h); exact rfl)) | (apply iw; (apply iy (tt := tt); (focus (conv => lhs; whnf; arg 1; whnf; arg 2; whnf); try exact rfl); (exact trivial); exact rfl)) | (apply pq; (apply aa; (apply gy tab; exact rfl; (focus (conv => lhs; whnf; arg 1; whnf; arg 2; whnf); try skip)); (intro c h; cases h); exact rfl)) | (apply wu; (apply aa; (apply wy (tt := tt); (focus (conv => lhs; whnf); try exact rfl)); (intro c h; cases h); exact rfl)) | (apply ak))) | (apply bq; (first | (apply bg) | (apply ah) | (apply df; exact rfl; (assumption)))) | (apply bf))
      refine aa (ahc (tt := tt) Try.underlying102 rfl) (by simp) rfl ?_
      refine ah2 (tt := tt) rfl ?_
      repeat (first | apply y9 | apply za)
      exact .inr ⟨_, σ ++ [.cells [.str s]], [], rfl, (List.append_nil _).symm, .inl rfl, fun h => h2 h.2, rfl, rfl⟩
  · have c1 : (e != 0) = true := by simpa using h1
    repeat' (first | (apply bn; (first | (apply jq; (apply ky; exact (rfl : _ = some _); exact (rfl : _ = PV.bool _); (assumption); exact ltn rfl)) | (apply bv; (apply bu (tt := tt); (focus (conv => lhs; whnf); try exact rfl); exact rfl)) | (apply ai; (apply az (tt := tt); (focus (conv => lhs; whnf); try exact rfl); exact rfl)) | (apply ji; (refine cz (tt := tt) ags (hq _) rfl rfl rfl rfl rfl ?_)) | (apply dw; (apply di true tab; (focus (conv => lhs; whnf; arg 1; whnf; arg 2; whnf); try exact rfl); (exact trivial); exact rfl)) | (apply kr; (apply ku (tt := tt); exact (rfl : _ = PV.bool _); (refine .inl ⟨by assumption, ?_⟩); (focus (conv => lhs; whnf); try exact rfl); exact ltn rfl)) | (apply fq; (apply aa; (apply aj tab; exact rfl; exact rfl; exact rfl; (focus (conv => lhs; whnf; arg 1; whnf; arg 2; whnf); try skip); (exact trivial)); (intro c h; cases h); exact rfl)) | (apply cu; (apply aa; (apply af tab; exact rfl; (focus (conv => lhs; whnf); try exact rfl); exact rfl; (exact (rfl : _ = 0))); (intro c h; cases h); exact rfl)) | (apply iw; (apply iy (tt := tt); (focus (conv => lhs; whnf; arg 1; whnf; arg 2; whnf); try exact rfl); (exact trivial); exact rfl)) | (apply pq; (apply aa; (apply gy tab; exact rfl; (focus (conv => lhs; whnf; arg 1; whnf; arg 2; whnf); try skip)); (intro c h; cases h); exact rfl)) | (apply wu; (apply aa; (apply wy (tt := tt); (focus (conv => lhs; whnf); try exact rfl)); (intro c h; cases h); exact rfl)) | (apply ak))) | (apply bq; (first | (apply bg) | (apply ah) | (apply df; exact rfl; (exact rfl)))) | (apply bf))
    refine aa (ahc (tt := tt) Try.underlying102 rfl) (by simp) rfl ?_
    refine ah2 (tt := tt) rfl ?_
    repeat (first | apply y9 | apply za)
    exact .inr ⟨_, σ ++ [.cells [.str s]], [], rfl, (List.append_nil _).symm, .inl rfl, fun h => h1 h.1, rfl, rfl⟩
end Go.Proofs.Ytbpjaiemlkcccaa.Pv
end
section
/- The command of bytes: index.Take. -/
namespace Go.Proofs.Ytbpjaiemlkcccaa.Pv
open Go
set_option maxRecDepth 100000
def rdN (s : ByteArray) (top : Nat) : Option (Nat × ByteArray) := if okN s top then some ((takeN s).1, (takeN s).2.1) else none
def rdT (s : ByteArray) : Option (ByteArray × ByteArray) := if (aci s 16).2.2 = 0 then some ((aci s 16).1, (aci s 16).2.1) else none
def rdP : Nat → ByteArray → List (Int × Int) → Option (List (Int × Int) × ByteArray)
  | 0, s, acc => some (acc, s)
  | n + 1, s, acc => (rdN s 3).bind fun a => (rdN a.2 63).bind fun b => rdP n b.2 (acc ++ [((a.1 : Int), (b.1 : Int))])
def ae6 (c : Cm) (s : ByteArray) : Option Cm := if s = ⟨#[]⟩ ∧ vk c = true then some c else none
def takeC (s : ByteArray) : Option Cm :=
  (rdN s 9).bind fun k => (rdN k.2 16).bind fun cl => (rdN cl.2 1073741824).bind fun sq => (rdT sq.2).bind fun nm =>
  (rdN nm.2 1048576).bind fun vo => (rdN vo.2 1048576).bind fun off => (rdN off.2 1048576).bind fun n => (rdN n.2 4294967295).bind fun su =>
  (rdN su.2 1048576).bind fun re => (rdN re.2 1048576).bind fun ma => (rdN ma.2 1048576).bind fun idx => (rdN idx.2 14).bind fun m =>
  (rdP m.1 m.2 []).bind fun ps => ae6 ⟨k.1, cl.1, sq.1, nm.1, vo.1, off.1, n.1, su.1, re.1, ma.1, idx.1, ps.1⟩ ps.2
def afx : Option Cm → PV
  | none => .tup [cm ⟨0, 0, 0, ⟨#[]⟩, 0, 0, 0, 0, 0, 0, 0, []⟩, .int .i64 3]
  | some c => .tup [cm c, .int .i64 0]
theorem af4 {s : ByteArray} {top : Nat} {v : Nat} {r : ByteArray} (h : rdN s top = some (v, r)) : r.size ≤ s.size ∧ v ≤ top := by
  unfold rdN at h
  split at h
  · rename_i h1; cases h; exact ⟨(aej s).2, h1.2⟩
  · cases h
theorem aht {s : ByteArray} {v r : ByteArray} (h : rdT s = some (v, r)) : r.size ≤ s.size ∧ v.size ≤ 16 := by
  have hb : (aci s 16).2.1.size ≤ s.size ∧ (aci s 16).1.size ≤ 16 := by
    obtain ⟨h1, h2⟩ := aej s
    unfold aci
    split
    · exact ⟨Nat.zero_le _, Nat.zero_le _⟩
    split
    · exact ⟨Nat.zero_le _, Nat.zero_le _⟩
    split
    · exact ⟨Nat.zero_le _, Nat.zero_le _⟩
    · simp only [ByteArray.size_extract]; omega
  unfold rdT at h
  split at h
  · cases h; exact hb
  · cases h
section
variable {l : Option Nat} {n m : Nat} {env : Env} {σ τ ex : Sto} {Q : Post} {all : Array Oper} {rest : List Oper} {d : Nat} {ty : TypeId} {pos : String} {after : Array Edge}
theorem abu {s : ByteArray} (k top : Nat) {fo : Operand} {args : Array Operand} {ats : Array TypeId} (hk : ex[k]? = some (.cells [.str s])) (hs : s.size ≤ 9223372036854775807) (ht : Nat.ble top 4294967296 = true)
    (hfo : fo = .func 41) (hps : zy tt env args.toList ats.toList = [.ptr (τ.length + k) 0, .int .u64 top]) (hlen : Nat.ble args.size ats.size = true) (hd : Nat.ble (d + 1) n = true)
    (hz : rdN s top = none → Q (.panic aic) env (τ ++ ex)) (h : ∀ v r, rdN s top = some (v, r) → r.size ≤ s.size → v ≤ top → SatOps Try.prog l n m all rest ((d, .int .i64 v) :: env) (τ ++ ex.set k (.cells [.str r])) Q) :
    SatOps Try.prog l n m all (⟨some d, .call ⟨.value fo, args, ats⟩, ty, pos, after, none⟩ :: rest) env (τ ++ ex) Q := by
  refine arl (tt := tt) (k := k) (cs := [.str s]) (cs' := [.str (takeN s).2.1]) (c := okN s top) (p := .int .i64 (takeN s).1) (Z := fun ch => ch = aic) azc hk (fun σ => at7 s top hs (nlb ht) σ) trivial (by simp [o6, PV.lt]) (by simp [o6, PV.lt]) hfo hps hlen rfl hd ?_ ?_
  · rintro hn ch rfl
    exact hz (by unfold rdN; rw [if_neg hn])
  · intro hc
    have e : rdN s top = some ((takeN s).1, (takeN s).2.1) := by unfold rdN; rw [if_pos hc]
    exact h _ _ e (af4 e).1 (af4 e).2
end
abbrev QT (s : ByteArray) (σ : Sto) : Post := aop Try.prog tt Try.f23 σ.length (fun x σ' => x = afx (takeC s) ∧ σ' = σ) 40 [.ptr (σ.length + 0) 0, .ptr (σ.length + 1) 0]
theorem aac {s : ByteArray} {σ rest : Sto} {env : Env} {C E : List PV} (hsp : takeC s = none) (hso : xh σ) (hC : C.length = 12) (hE : E.length = 1) (h2 : look env 2 = .ptr (σ.length + 0) 0) (h3 : look env 3 = .ptr (σ.length + 1) 0) :
    QT s σ (.panic aic) env (σ ++ .cells C :: .cells E :: rest) := by
  refine ⟨.panicking aic, .panicking ar8, σ ++ .cells afw :: .cells [.int .i64 3] :: rest, .inr ⟨_, rfl, rfl⟩, rfl, rfl, arb σ rest C E hC hE, .inr rfl, [cm ⟨0, 0, 0, ⟨#[]⟩, 0, 0, 0, 0, 0, 0, 0, []⟩, .int .i64 3], σ, _, ?_, ?_, rfl, .inr ⟨Nat.le_refl _, hso⟩, ?_, ?_⟩
  · refine ⟨⟨_, _, _, _, _, h2, rfl, wo 0, rfl, ?_⟩, ⟨_, _, _, _, _, h3, rfl, wo 1, rfl, ?_⟩, trivial⟩
    all_goals trivial
  · intro p hp; simp [cm] at hp; rcases hp with rfl | rfl <;> rfl
  · simp [cm, o6, PV.lt]
  · rw [hsp]; exact ⟨rfl, rfl⟩
theorem ajg {s : ByteArray} {σ rest : Sto} {env : Env} {C E : List PV} {p : PV} {e : Int} (hso : xh σ) (hC : ∃ c, ag5 ata C 0 = some (c, p) ∧ c) (hp : p.isTup = false ∧ p.lt 0) (hE : E = [.int .i64 e]) (h2 : look env 2 = .ptr (σ.length + 0) 0) (h3 : look env 3 = .ptr (σ.length + 1) 0)
    (hsp : afx (takeC s) = .tup [p, .int .i64 e]) : QT s σ .ret env (σ ++ .cells C :: .cells E :: rest) := by
  subst hE
  obtain ⟨c, hc1, hc2⟩ := hC
  refine ⟨.returning, .returning, σ ++ .cells C :: .cells [.int .i64 e] :: rest, .inl ⟨.inr rfl, rfl⟩, rfl, rfl, asa _ _ rfl, .inr rfl, [p, .int .i64 e], σ, _, ?_, ?_, rfl, .inr ⟨Nat.le_refl _, hso⟩, ?_, ?_⟩
  · refine ⟨⟨_, _, _, _, _, h2, rfl, wo 0, hc1, hc2⟩, ⟨_, _, _, _, _, h3, rfl, wo 1, rfl, ?_⟩, trivial⟩
    all_goals trivial
  · intro q hq; simp at hq; rcases hq with rfl | rfl
    · exact hp.1
    · rfl
  · exact ⟨zh (Nat.zero_le _) hp.2, trivial, trivial⟩
  · rw [hsp]; exact ⟨rfl, rfl⟩
set_option maxHeartbeats 4000000 in
theorem alb (s : ByteArray) (hs : s.size ≤ 9223372036854775807) (σ : Sto) : jo Try.prog 23 [.str s] σ fun x σ' => x = afx (takeC s) ∧ σ' = σ := by
  by_cases hso : xh σ
  case neg => exact fun F G w vs _ hs => absurd hs.stolt hso
  refine avm (g := 40) (cs := [.ptr (σ.length + 0) 0, .ptr (σ.length + 1) 0]) (env1 := [(3, .ptr (σ.length + 1) 0), (2, .ptr (σ.length + 0) 0), (0, .str s)])
    (σ1 := σ ++ [.cells [.int .i64 0, .int .i64 0, .int .i64 0, .str ByteArray.empty, .int .i64 0, .int .i64 0, .int .i64 0, .int .u32 0, .int .i64 0, .int .i64 0, .int .i64 0, .sl .ow 2 []], .cells [.int .i64 0]])
    tab Try.func23 rfl (nlb rfl) (by decide) (ltn rfl) ax4 ?_ (fun _ => acd rfl ?_) ?_ fun _ => ?_
  · exact ⟨by show σ.length + 0 < _; simp, by show σ.length + 1 < _; simp, trivial⟩
  · refine zk (σ' := σ ++ []) (List.append_nil σ).symm ?_
    repeat' (apply bn; (first | (apply je; (apply ik tab; exact rfl; exact rfl; (first | exact (rfl : _ = 0) | exact (rfl : _ = 1)); exact rfl)) | (apply ak)))
    exact ⟨rfl, rfl, rfl⟩
  · exact dx (tt := tt) rfl rfl rfl
  have hsp : takeC s = takeC s := rfl
  conv at hsp => rhs; unfold takeC
  repeat' (first | (apply bn; (first | (apply bv; (apply bu (tt := tt); (focus (conv => lhs; whnf); try exact rfl); exact rfl)) | (apply ai; (apply az (tt := tt); (focus (conv => lhs; whnf); try exact rfl); exact rfl)) | (apply pq; (apply aa; (apply gy tab.nils; exact rfl; (focus (conv => lhs; whnf; arg 1; whnf; arg 2; whnf); try skip)); (intro c h; cases h); exact rfl)) | (apply lu; (apply aso (tt := tt); (focus (conv => lhs; whnf); try exact rfl); exact rfl; (exact (rfl : _ = 2)); exact rfl)) | (apply ak))) | (apply bq; (first | (apply bg) | (apply ah))) | (apply bf))
  refine abu (s := s) 2 9 rfl (by omega) rfl rfl rfl rfl rfl (fun hz => ?_) (fun v1 r1 e1 b1 l1 => ?_)
  · rw [hz] at hsp
    repeat (first | apply y9 | apply za)
    exact aac hsp hso rfl rfl rfl rfl
  rw [e1] at hsp
  dsimp only [Option.bind_some] at hsp
  repeat' (apply bn; (apply bv; (apply bu (tt := tt); (focus (conv => lhs; whnf); try exact rfl); exact rfl)))
  refine abu (s := r1) 2 16 rfl (by omega) rfl rfl rfl rfl rfl (fun hz => ?_) (fun v2 r2 e2 b2 l2 => ?_)
  · rw [hz] at hsp
    repeat (first | apply y9 | apply za)
    exact aac hsp hso rfl rfl rfl rfl
  rw [e2] at hsp
  dsimp only [Option.bind_some] at hsp
  repeat' (first | (apply bn; (first | (apply bv; (apply bu (tt := tt); (focus (conv => lhs; whnf); try exact rfl); exact rfl)) | (apply gq; (apply yg tab; exact rfl; exact rfl; exact rfl; (focus (conv => lhs; whnf); try exact rfl); exact rfl; exact rfl; exact rfl; exact rfl)) | (apply pq; (apply aa; (apply gy tab.nils; exact rfl; (focus (conv => lhs; whnf; arg 1; whnf; arg 2; whnf); try skip)); (intro c h; cases h); exact rfl)) | (apply ak))) | (apply bq; (first | (apply bg) | (apply ah))) | (apply bf))
  refine abu (s := r2) 2 1073741824 rfl (by omega) rfl rfl rfl rfl rfl (fun hz => ?_) (fun v3 r3 e3 b3 l3 => ?_)
  · rw [hz] at hsp
    repeat (first | apply y9 | apply za)
    exact aac hsp hso rfl rfl rfl rfl
  rw [e3] at hsp
  dsimp only [Option.bind_some] at hsp
  repeat' (first | (apply bn; (first | (apply bv; (apply bu (tt := tt); (focus (conv => lhs; whnf); try exact rfl); exact rfl)) | (apply fq; (apply aa; (apply aj tab; exact rfl; exact rfl; exact rfl; (focus (conv => lhs; whnf; arg 1; whnf; arg 2; whnf); try skip); (exact trivial)); (intro c h; cases h); exact rfl)) | (apply cu; (apply aa; (apply af tab; exact rfl; (focus (conv => lhs; whnf); try exact rfl); exact rfl; (first | exact (rfl : _ = 0) | exact (rfl : _ = 2))); (intro c h; cases h); exact rfl)) | (apply gq; (apply yg tab; exact rfl; exact rfl; exact rfl; (focus (conv => lhs; whnf); try exact rfl); exact rfl; exact rfl; exact rfl; exact rfl)) | (apply wu; (apply aa; (apply wy (tt := tt); (focus (conv => lhs; whnf); try exact rfl)); (intro c h; cases h); exact rfl)) | (apply ak))) | (apply bq; (first | (apply bg) | (apply ah))) | (apply bf))
  refine aa1 [(29, .str r3), (4, .ptr (σ.length + 2) 0), (3, .ptr (σ.length + 1) 0), (2, .ptr (σ.length + 0) 0)] ?_ (zk (σ' := σ ++ [.cells [.int .i64 v1, .int .i64 v2, .int .i64 v3, .str ByteArray.empty, .int .i64 0, .int .i64 0, .int .i64 0, .int .u32 0, .int .i64 0, .int .i64 0, .int .i64 0, .sl .ow 2 []], .cells [.int .i64 0], .cells [.str r3]]) rfl ?_)
  · (repeat' (first | exact trivial | exact Wk.same _ | refine ⟨?_, ?_⟩))
  have tT := anl r3 16 (by omega) (by decide)
  cases hT : rdT r3 with
  | none =>
    rw [hT] at hsp
    unfold rdT at hT
    generalize aci r3 16 = q at *
    obtain ⟨nm, r4, e4⟩ := q
    dsimp only [agm] at *
    have h4 : e4 ≠ 0 := fun h => by rw [if_pos h] at hT; cases hT
    have c4 : (e4 != 0) = true := by simpa using h4
    repeat' (first | (apply bn; (first | (apply bv; (apply bu (tt := tt); (focus (conv => lhs; whnf); try exact rfl); exact rfl)) | (apply ai; (apply az (tt := tt); (focus (conv => lhs; whnf); try exact rfl); exact rfl)) | (apply ji; (refine cz (tt := tt) aun (tT _) rfl rfl rfl rfl rfl ?_)) | (apply dw; (apply di true tab; (focus (conv => lhs; whnf; arg 1; whnf; arg 2; whnf); try exact rfl); (exact trivial); exact rfl)) | (apply iw; (apply iy (tt := tt); (focus (conv => lhs; whnf; arg 1; whnf; arg 2; whnf); try exact rfl); (exact trivial); exact rfl)) | (apply pq; (apply aa; (apply gy tab.nils; exact rfl; (focus (conv => lhs; whnf; arg 1; whnf; arg 2; whnf); try skip)); (intro c h; cases h); exact rfl)) | (apply ak))) | (apply bq; (first | (apply bg) | (apply ah) | (apply df; exact rfl; (assumption)))) | (apply bf))
    refine aa (ahc (tt := tt) Try.underlying102 rfl) (by simp) rfl ?_
    refine ah2 (tt := tt) rfl ?_
    repeat (first | apply y9 | apply za)
    exact aac hsp hso rfl rfl rfl rfl
  | some q4 =>
  obtain ⟨nm, r4⟩ := q4
  obtain ⟨b4, b4'⟩ := aht hT
  rw [hT] at hsp
  dsimp only [Option.bind_some] at hsp
  have hT' : aci r3 16 = (nm, r4, 0) := by
    unfold rdT at hT
    split at hT
    · rename_i h
      cases hT
      rw [← h]
    · cases hT
  rw [hT'] at tT
  dsimp only [agm] at tT
  repeat' (first | (apply bn; (first | (apply bv; (apply bu (tt := tt); (focus (conv => lhs; whnf); try exact rfl); exact rfl)) | (apply ai; (apply az (tt := tt); (focus (conv => lhs; whnf); try exact rfl); exact rfl)) | (apply ji; (refine cz (tt := tt) aun (tT _) rfl rfl rfl rfl rfl ?_)) | (apply dw; (apply di true tab; (focus (conv => lhs; whnf; arg 1; whnf; arg 2; whnf); try exact rfl); (exact trivial); exact rfl)) | (apply cu; (apply aa; (apply af tab; exact rfl; (focus (conv => lhs; whnf); try exact rfl); exact rfl; (first | exact (rfl : _ = 0) | exact (rfl : _ = 3) | exact (rfl : _ = 4) | exact (rfl : _ = 5) | exact (rfl : _ = 6))); (intro c h; cases h); exact rfl)) | (apply iw; (apply iy (tt := tt); (focus (conv => lhs; whnf; arg 1; whnf; arg 2; whnf); try exact rfl); (exact trivial); exact rfl)) | (apply gq; (apply yg tab; exact rfl; exact rfl; exact rfl; (focus (conv => lhs; whnf); try exact rfl); exact rfl; exact rfl; exact rfl; exact rfl)) | (apply wu; (apply aa; (apply wy (tt := tt); (focus (conv => lhs; whnf); try exact rfl)); (intro c h; cases h); exact rfl)) | (apply ak))) | (apply bq; (first | (apply bg) | (apply ah) | (apply dm; exact rfl; (exact rfl)) | (apply gz))) | (apply bf))
  refine aa1 [(44, .ptr (σ.length + 0) 4), (45, .ptr (σ.length + 0) 5), (46, .ptr (σ.length + 0) 6), (4, .ptr (σ.length + 2) 0), (3, .ptr (σ.length + 1) 0), (2, .ptr (σ.length + 0) 0)] ?_ (zk (σ' := σ ++ [.cells [.int .i64 v1, .int .i64 v2, .int .i64 v3, .str nm, .int .i64 0, .int .i64 0, .int .i64 0, .int .u32 0, .int .i64 0, .int .i64 0, .int .i64 0, .sl .ow 2 []], .cells [.int .i64 0], .cells [.str r4]]) rfl ?_)
  · (repeat' (first | exact trivial | exact Wk.same _ | refine ⟨?_, ?_⟩))
  refine ahq (k := 3) (es := [.ptr (σ.length + 0) 4, .ptr (σ.length + 0) 5, .ptr (σ.length + 0) 6]) tab rfl rfl (by (repeat (apply mh; (focus (conv => lhs; whnf); try exact rfl))); exact nk) (by intro p hp; simp at hp; rcases hp with rfl | rfl | rfl <;> exact ⟨_, _, rfl⟩) rfl rfl rfl rfl rfl ?_
  repeat' (first | (apply bn; (first | (apply bv; (apply bu (tt := tt); (focus (conv => lhs; whnf); try exact rfl); exact rfl)) | (apply jr; (apply ni tab; (focus (conv => lhs; whnf; arg 1; whnf; arg 2; whnf); try exact rfl); (exact trivial); exact rfl)) | (apply ak))) | (apply bq; (apply ed)) | (apply bf))
  refine agu 4 ?_
  change Sat _ _ _ _ _ _ _ _
  refine aba [(49, .int .i64 0), (48, .int .i64 3), (47, .bsl (σ.length + 3) 0 1 3 3), (4, .ptr (σ.length + 2) 0), (3, .ptr (σ.length + 1) 0), (2, .ptr (σ.length + 0) 0)] ?_ (adq (σ' := σ ++ [.cells [.int .i64 v1, .int .i64 v2, .int .i64 v3, .str nm, .int .i64 0, .int .i64 0, .int .i64 0, .int .u32 0, .int .i64 0, .int .i64 0, .int .i64 0, .sl .ow 2 []], .cells [.int .i64 0], .cells [.str r4], .cells [.ptr (σ.length + 0) 4, .ptr (σ.length + 0) 5, .ptr (σ.length + 0) 6]]) rfl ?_)
  · (repeat' (first | exact trivial | exact Wk.same _ | refine ⟨?_, ?_⟩))
  repeat' (first | (apply bn; (first | (apply bv; (apply bu (tt := tt); (focus (conv => lhs; whnf); try exact rfl); exact rfl)) | (apply ai; (apply az (tt := tt); (focus (conv => lhs; whnf); try exact rfl); exact rfl)) | (apply dw; (apply di true tab; (focus (conv => lhs; whnf; arg 1; whnf; arg 2; whnf); try exact rfl); (exact trivial); exact rfl)) | (apply fq; (apply aa; (apply aj tab; exact rfl; exact rfl; exact rfl; (focus (conv => lhs; whnf; arg 1; whnf; arg 2; whnf); try skip); (exact trivial)); (intro c h; cases h); exact rfl)) | (apply j5; (apply aa; (apply jy (tI := 3) tab; exact rfl; (focus (conv => lhs; whnf); try exact rfl); (focus (conv => lhs; whnf); try exact rfl); exact rfl; (omega)); (intro c h; cases h); exact rfl)) | (apply ak))) | (apply bq; (first | (apply bg) | (apply ah) | (apply df; exact rfl; (exact rfl)) | (apply gz) | (apply ed))) | (apply bf))
  refine aa1 [(53, .ptr (σ.length + 0) 4), (54, .ptr (σ.length + 2) 0), (49, .int .i64 0), (48, .int .i64 3), (47, .bsl (σ.length + 3) 0 1 3 3), (4, .ptr (σ.length + 2) 0), (3, .ptr (σ.length + 1) 0), (2, .ptr (σ.length + 0) 0)] ?_ (zk (σ' := σ ++ [.cells [.int .i64 v1, .int .i64 v2, .int .i64 v3, .str nm, .int .i64 0, .int .i64 0, .int .i64 0, .int .u32 0, .int .i64 0, .int .i64 0, .int .i64 0, .sl .ow 2 []], .cells [.int .i64 0], .cells [.str r4], .cells [.ptr (σ.length + 0) 4, .ptr (σ.length + 0) 5, .ptr (σ.length + 0) 6]]) rfl ?_)
  · (repeat' (first | exact trivial | exact Wk.same _ | refine ⟨?_, ?_⟩))
  refine abu (s := r4) 2 1048576 rfl (by omega) rfl rfl rfl rfl rfl (fun hz => ?_) (fun v5 r5 e5 b5 l5 => ?_)
  · rw [hz] at hsp
    repeat (first | apply y9 | apply za)
    exact aac hsp hso rfl rfl rfl rfl
  rw [e5] at hsp
  dsimp only [Option.bind_some] at hsp
  repeat' (first | (apply bn; (first | (apply bv; (apply bu (tt := tt); (focus (conv => lhs; whnf); try exact rfl); exact rfl)) | (apply ai; (apply az (tt := tt); (focus (conv => lhs; whnf); try exact rfl); exact rfl)) | (apply dw; (apply di true tab; (focus (conv => lhs; whnf; arg 1; whnf; arg 2; whnf); try exact rfl); (first | exact trivial | (simp only [InR]; omega)); exact rfl)) | (apply fq; (apply aa; (apply aj tab; exact rfl; exact rfl; exact rfl; (focus (conv => lhs; whnf; arg 1; whnf; arg 2; whnf); try skip); (exact trivial)); (intro c h; cases h); exact rfl)) | (apply j5; (apply aa; (apply jy (tI := 3) tab; exact rfl; (focus (conv => lhs; whnf); try exact rfl); (focus (conv => lhs; whnf); try exact rfl); exact rfl; (omega)); (intro c h; cases h); exact rfl)) | (apply gq; (apply yg tab; exact rfl; exact rfl; exact rfl; (focus (conv => lhs; whnf); try exact rfl); exact rfl; exact rfl; exact rfl; exact rfl)) | (apply wu; (apply aa; (apply wy (tt := tt); (focus (conv => lhs; whnf); try exact rfl)); (intro c h; cases h); exact rfl)) | (apply ak))) | (apply bq; (first | (apply bg) | (apply ah) | (apply df; exact rfl; (exact rfl)) | (apply gz) | (apply ed))) | (apply bf) | (apply ng))
  refine aa1 [(53, .ptr (σ.length + 0) 5), (54, .ptr (σ.length + 2) 0), (49, .int .i64 1), (48, .int .i64 3), (47, .bsl (σ.length + 3) 0 1 3 3), (4, .ptr (σ.length + 2) 0), (3, .ptr (σ.length + 1) 0), (2, .ptr (σ.length + 0) 0)] ?_ (zk (σ' := σ ++ [.cells [.int .i64 v1, .int .i64 v2, .int .i64 v3, .str nm, .int .i64 v5, .int .i64 0, .int .i64 0, .int .u32 0, .int .i64 0, .int .i64 0, .int .i64 0, .sl .ow 2 []], .cells [.int .i64 0], .cells [.str r5], .cells [.ptr (σ.length + 0) 4, .ptr (σ.length + 0) 5, .ptr (σ.length + 0) 6]]) rfl ?_)
  · (repeat' (first | exact trivial | exact Wk.same _ | refine ⟨?_, ?_⟩))
  refine abu (s := r5) 2 1048576 rfl (by omega) rfl rfl rfl rfl rfl (fun hz => ?_) (fun v6 r6 e6 b6 l6 => ?_)
  · rw [hz] at hsp
    repeat (first | apply y9 | apply za)
    exact aac hsp hso rfl rfl rfl rfl
  rw [e6] at hsp
  dsimp only [Option.bind_some] at hsp
  repeat' (first | (apply bn; (first | (apply bv; (apply bu (tt := tt); (focus (conv => lhs; whnf); try exact rfl); exact rfl)) | (apply ai; (apply az (tt := tt); (focus (conv => lhs; whnf); try exact rfl); exact rfl)) | (apply dw; (apply di true tab; (focus (conv => lhs; whnf; arg 1; whnf; arg 2; whnf); try exact rfl); (first | exact trivial | (simp only [InR]; omega)); exact rfl)) | (apply fq; (apply aa; (apply aj tab; exact rfl; exact rfl; exact rfl; (focus (conv => lhs; whnf; arg 1; whnf; arg 2; whnf); try skip); (exact trivial)); (intro c h; cases h); exact rfl)) | (apply j5; (apply aa; (apply jy (tI := 3) tab; exact rfl; (focus (conv => lhs; whnf); try exact rfl); (focus (conv => lhs; whnf); try exact rfl); exact rfl; (omega)); (intro c h; cases h); exact rfl)) | (apply gq; (apply yg tab; exact rfl; exact rfl; exact rfl; (focus (conv => lhs; whnf); try exact rfl); exact rfl; exact rfl; exact rfl; exact rfl)) | (apply wu; (apply aa; (apply wy (tt := tt); (focus (conv => lhs; whnf); try exact rfl)); (intro c h; cases h); exact rfl)) | (apply ak))) | (apply bq; (first | (apply bg) | (apply ah) | (apply df; exact rfl; (exact rfl)) | (apply gz) | (apply ed))) | (apply bf) | (apply ng))
  refine aa1 [(53, .ptr (σ.length + 0) 6), (54, .ptr (σ.length + 2) 0), (49, .int .i64 2), (48, .int .i64 3), (47, .bsl (σ.length + 3) 0 1 3 3), (4, .ptr (σ.length + 2) 0), (3, .ptr (σ.length + 1) 0), (2, .ptr (σ.length + 0) 0)] ?_ (zk (σ' := σ ++ [.cells [.int .i64 v1, .int .i64 v2, .int .i64 v3, .str nm, .int .i64 v5, .int .i64 v6, .int .i64 0, .int .u32 0, .int .i64 0, .int .i64 0, .int .i64 0, .sl .ow 2 []], .cells [.int .i64 0], .cells [.str r6], .cells [.ptr (σ.length + 0) 4, .ptr (σ.length + 0) 5, .ptr (σ.length + 0) 6]]) rfl ?_)
  · (repeat' (first | exact trivial | exact Wk.same _ | refine ⟨?_, ?_⟩))
  refine abu (s := r6) 2 1048576 rfl (by omega) rfl rfl rfl rfl rfl (fun hz => ?_) (fun v7 r7 e7 b7 l7 => ?_)
  · rw [hz] at hsp
    repeat (first | apply y9 | apply za)
    exact aac hsp hso rfl rfl rfl rfl
  rw [e7] at hsp
  dsimp only [Option.bind_some] at hsp
  repeat' (first | (apply bn; (first | (apply bv; (apply bu (tt := tt); (focus (conv => lhs; whnf); try exact rfl); exact rfl)) | (apply dw; (apply di true tab; (focus (conv => lhs; whnf; arg 1; whnf; arg 2; whnf); try exact rfl); (first | exact trivial | (simp only [InR]; omega)); exact rfl)) | (apply gq; (apply yg tab; exact rfl; exact rfl; exact rfl; (focus (conv => lhs; whnf); try exact rfl); exact rfl; exact rfl; exact rfl; exact rfl)) | (apply wu; (apply aa; (apply wy (tt := tt); (focus (conv => lhs; whnf); try exact rfl)); (intro c h; cases h); exact rfl)) | (apply ak))) | (apply bq; (first | (apply bg) | (apply ah) | (apply dm; exact rfl; (exact rfl)) | (apply oo))) | (apply bf) | (apply ng) | (apply o9) | (apply pg))
  refine aa1 [(58, .ptr (σ.length + 2) 0), (4, .ptr (σ.length + 2) 0), (3, .ptr (σ.length + 1) 0), (2, .ptr (σ.length + 0) 0)] ?_ (zk (σ' := σ ++ [.cells [.int .i64 v1, .int .i64 v2, .int .i64 v3, .str nm, .int .i64 v5, .int .i64 v6, .int .i64 v7, .int .u32 0, .int .i64 0, .int .i64 0, .int .i64 0, .sl .ow 2 []], .cells [.int .i64 0], .cells [.str r7], .cells [.ptr (σ.length + 0) 4, .ptr (σ.length + 0) 5, .ptr (σ.length + 0) 6]]) rfl ?_)
  · (repeat' (first | exact trivial | exact Wk.same _ | refine ⟨?_, ?_⟩))
  refine abu (s := r7) 2 4294967295 rfl (by omega) rfl rfl rfl rfl rfl (fun hz => ?_) (fun v8 r8 e8 b8 l8 => ?_)
  · rw [hz] at hsp
    repeat (first | apply y9 | apply za)
    exact aac hsp hso rfl rfl rfl rfl
  rw [e8] at hsp
  dsimp only [Option.bind_some] at hsp
  repeat' (first | (apply bn; (first | (apply cu; (apply aa; (apply af tab; exact rfl; (focus (conv => lhs; whnf); try exact rfl); exact rfl; (first | exact (rfl : _ = 7) | exact (rfl : _ = 8) | exact (rfl : _ = 9) | exact (rfl : _ = 10))); (intro c h; cases h); exact rfl)) | (apply tq; (apply pz true tab; (focus (conv => lhs; whnf; arg 1; whnf; arg 2; whnf); try exact rfl); (simp only [InR]; omega); exact rfl)) | (apply gq; (apply yg tab; exact rfl; exact rfl; exact rfl; (focus (conv => lhs; whnf); try exact rfl); exact rfl; exact rfl; exact rfl; exact rfl)) | (apply ak))) | (apply bq; (first | (apply bg) | (apply ah))) | (apply bf))
  refine aa1 [(62, .ptr (σ.length + 0) 8), (63, .ptr (σ.length + 0) 9), (64, .ptr (σ.length + 0) 10), (4, .ptr (σ.length + 2) 0), (3, .ptr (σ.length + 1) 0), (2, .ptr (σ.length + 0) 0)] ?_ (zk (σ' := σ ++ [.cells [.int .i64 v1, .int .i64 v2, .int .i64 v3, .str nm, .int .i64 v5, .int .i64 v6, .int .i64 v7, .int .u32 v8, .int .i64 0, .int .i64 0, .int .i64 0, .sl .ow 2 []], .cells [.int .i64 0], .cells [.str r8], .cells [.ptr (σ.length + 0) 4, .ptr (σ.length + 0) 5, .ptr (σ.length + 0) 6]]) rfl ?_)
  · (repeat' (first | exact trivial | exact Wk.same _ | refine ⟨?_, ?_⟩))
  refine ahq (k := 4) (es := [.ptr (σ.length + 0) 8, .ptr (σ.length + 0) 9, .ptr (σ.length + 0) 10]) tab rfl rfl (by (repeat (apply mh; (focus (conv => lhs; whnf); try exact rfl))); exact nk) (by intro p hp; simp at hp; rcases hp with rfl | rfl | rfl <;> exact ⟨_, _, rfl⟩) rfl rfl rfl rfl rfl ?_
  repeat' (first | (apply bn; (first | (apply bv; (apply bu (tt := tt); (focus (conv => lhs; whnf); try exact rfl); exact rfl)) | (apply jr; (apply ni tab; (focus (conv => lhs; whnf; arg 1; whnf; arg 2; whnf); try exact rfl); (exact trivial); exact rfl)) | (apply ak))) | (apply bq; (apply ed)) | (apply bf))
  refine agu 4 ?_
  change Sat _ _ _ _ _ _ _ _
  refine aba [(67, .int .i64 0), (66, .int .i64 3), (65, .bsl (σ.length + 4) 0 1 3 3), (4, .ptr (σ.length + 2) 0), (3, .ptr (σ.length + 1) 0), (2, .ptr (σ.length + 0) 0)] ?_ (adq (σ' := σ ++ [.cells [.int .i64 v1, .int .i64 v2, .int .i64 v3, .str nm, .int .i64 v5, .int .i64 v6, .int .i64 v7, .int .u32 v8, .int .i64 0, .int .i64 0, .int .i64 0, .sl .ow 2 []], .cells [.int .i64 0], .cells [.str r8], .cells [.ptr (σ.length + 0) 4, .ptr (σ.length + 0) 5, .ptr (σ.length + 0) 6], .cells [.ptr (σ.length + 0) 8, .ptr (σ.length + 0) 9, .ptr (σ.length + 0) 10]]) rfl ?_)
  · (repeat' (first | exact trivial | exact Wk.same _ | refine ⟨?_, ?_⟩))
  repeat' (first | (apply bn; (first | (apply bv; (apply bu (tt := tt); (focus (conv => lhs; whnf); try exact rfl); exact rfl)) | (apply ai; (apply az (tt := tt); (focus (conv => lhs; whnf); try exact rfl); exact rfl)) | (apply dw; (apply di true tab; (focus (conv => lhs; whnf; arg 1; whnf; arg 2; whnf); try exact rfl); (exact trivial); exact rfl)) | (apply fq; (apply aa; (apply aj tab; exact rfl; exact rfl; exact rfl; (focus (conv => lhs; whnf; arg 1; whnf; arg 2; whnf); try skip); (exact trivial)); (intro c h; cases h); exact rfl)) | (apply j5; (apply aa; (apply jy (tI := 3) tab; exact rfl; (focus (conv => lhs; whnf); try exact rfl); (focus (conv => lhs; whnf); try exact rfl); exact rfl; (omega)); (intro c h; cases h); exact rfl)) | (apply ak))) | (apply bq; (first | (apply bg) | (apply ah) | (apply df; exact rfl; (exact rfl)) | (apply gz) | (apply ed))) | (apply bf))
  refine aa1 [(71, .ptr (σ.length + 0) 8), (72, .ptr (σ.length + 2) 0), (67, .int .i64 0), (66, .int .i64 3), (65, .bsl (σ.length + 4) 0 1 3 3), (4, .ptr (σ.length + 2) 0), (3, .ptr (σ.length + 1) 0), (2, .ptr (σ.length + 0) 0)] ?_ (zk (σ' := σ ++ [.cells [.int .i64 v1, .int .i64 v2, .int .i64 v3, .str nm, .int .i64 v5, .int .i64 v6, .int .i64 v7, .int .u32 v8, .int .i64 0, .int .i64 0, .int .i64 0, .sl .ow 2 []], .cells [.int .i64 0], .cells [.str r8], .cells [.ptr (σ.length + 0) 4, .ptr (σ.length + 0) 5, .ptr (σ.length + 0) 6], .cells [.ptr (σ.length + 0) 8, .ptr (σ.length + 0) 9, .ptr (σ.length + 0) 10]]) rfl ?_)
  · (repeat' (first | exact trivial | exact Wk.same _ | refine ⟨?_, ?_⟩))
  refine abu (s := r8) 2 1048576 rfl (by omega) rfl rfl rfl rfl rfl (fun hz => ?_) (fun v9 r9 e9 b9 l9 => ?_)
  · rw [hz] at hsp
    repeat (first | apply y9 | apply za)
    exact aac hsp hso rfl rfl rfl rfl
  rw [e9] at hsp
  dsimp only [Option.bind_some] at hsp
  repeat' (first | (apply bn; (first | (apply bv; (apply bu (tt := tt); (focus (conv => lhs; whnf); try exact rfl); exact rfl)) | (apply ai; (apply az (tt := tt); (focus (conv => lhs; whnf); try exact rfl); exact rfl)) | (apply dw; (apply di true tab; (focus (conv => lhs; whnf; arg 1; whnf; arg 2; whnf); try exact rfl); (first | exact trivial | (simp only [InR]; omega)); exact rfl)) | (apply fq; (apply aa; (apply aj tab; exact rfl; exact rfl; exact rfl; (focus (conv => lhs; whnf; arg 1; whnf; arg 2; whnf); try skip); (exact trivial)); (intro c h; cases h); exact rfl)) | (apply j5; (apply aa; (apply jy (tI := 3) tab; exact rfl; (focus (conv => lhs; whnf); try exact rfl); (focus (conv => lhs; whnf); try exact rfl); exact rfl; (omega)); (intro c h; cases h); exact rfl)) | (apply gq; (apply yg tab; exact rfl; exact rfl; exact rfl; (focus (conv => lhs; whnf); try exact rfl); exact rfl; exact rfl; exact rfl; exact rfl)) | (apply wu; (apply aa; (apply wy (tt := tt); (focus (conv => lhs; whnf); try exact rfl)); (intro c h; cases h); exact rfl)) | (apply ak))) | (apply bq; (first | (apply bg) | (apply ah) | (apply df; exact rfl; (exact rfl)) | (apply gz) | (apply ed))) | (apply bf) | (apply ng))
  refine aa1 [(71, .ptr (σ.length + 0) 9), (72, .ptr (σ.length + 2) 0), (67, .int .i64 1), (66, .int .i64 3), (65, .bsl (σ.length + 4) 0 1 3 3), (4, .ptr (σ.length + 2) 0), (3, .ptr (σ.length + 1) 0), (2, .ptr (σ.length + 0) 0)] ?_ (zk (σ' := σ ++ [.cells [.int .i64 v1, .int .i64 v2, .int .i64 v3, .str nm, .int .i64 v5, .int .i64 v6, .int .i64 v7, .int .u32 v8, .int .i64 v9, .int .i64 0, .int .i64 0, .sl .ow 2 []], .cells [.int .i64 0], .cells [.str r9], .cells [.ptr (σ.length + 0) 4, .ptr (σ.length + 0) 5, .ptr (σ.length + 0) 6], .cells [.ptr (σ.length + 0) 8, .ptr (σ.length + 0) 9, .ptr (σ.length + 0) 10]]) rfl ?_)
  · (repeat' (first | exact trivial | exact Wk.same _ | refine ⟨?_, ?_⟩))
  refine abu (s := r9) 2 1048576 rfl (by omega) rfl rfl rfl rfl rfl (fun hz => ?_) (fun v10 r10 e10 b10 l10 => ?_)
  · rw [hz] at hsp
    repeat (first | apply y9 | apply za)
    exact aac hsp hso rfl rfl rfl rfl
  rw [e10] at hsp
  dsimp only [Option.bind_some] at hsp
  repeat' (first | (apply bn; (first | (apply bv; (apply bu (tt := tt); (focus (conv => lhs; whnf); try exact rfl); exact rfl)) | (apply ai; (apply az (tt := tt); (focus (conv => lhs; whnf); try exact rfl); exact rfl)) | (apply dw; (apply di true tab; (focus (conv => lhs; whnf; arg 1; whnf; arg 2; whnf); try exact rfl); (first | exact trivial | (simp only [InR]; omega)); exact rfl)) | (apply fq; (apply aa; (apply aj tab; exact rfl; exact rfl; exact rfl; (focus (conv => lhs; whnf; arg 1; whnf; arg 2; whnf); try skip); (exact trivial)); (intro c h; cases h); exact rfl)) | (apply j5; (apply aa; (apply jy (tI := 3) tab; exact rfl; (focus (conv => lhs; whnf); try exact rfl); (focus (conv => lhs; whnf); try exact rfl); exact rfl; (omega)); (intro c h; cases h); exact rfl)) | (apply gq; (apply yg tab; exact rfl; exact rfl; exact rfl; (focus (conv => lhs; whnf); try exact rfl); exact rfl; exact rfl; exact rfl; exact rfl)) | (apply wu; (apply aa; (apply wy (tt := tt); (focus (conv => lhs; whnf); try exact rfl)); (intro c h; cases h); exact rfl)) | (apply ak))) | (apply bq; (first | (apply bg) | (apply ah) | (apply df; exact rfl; (exact rfl)) | (apply gz) | (apply ed))) | (apply bf) | (apply ng))
  refine aa1 [(71, .ptr (σ.length + 0) 10), (72, .ptr (σ.length + 2) 0), (67, .int .i64 2), (66, .int .i64 3), (65, .bsl (σ.length + 4) 0 1 3 3), (4, .ptr (σ.length + 2) 0), (3, .ptr (σ.length + 1) 0), (2, .ptr (σ.length + 0) 0)] ?_ (zk (σ' := σ ++ [.cells [.int .i64 v1, .int .i64 v2, .int .i64 v3, .str nm, .int .i64 v5, .int .i64 v6, .int .i64 v7, .int .u32 v8, .int .i64 v9, .int .i64 v10, .int .i64 0, .sl .ow 2 []], .cells [.int .i64 0], .cells [.str r10], .cells [.ptr (σ.length + 0) 4, .ptr (σ.length + 0) 5, .ptr (σ.length + 0) 6], .cells [.ptr (σ.length + 0) 8, .ptr (σ.length + 0) 9, .ptr (σ.length + 0) 10]]) rfl ?_)
  · (repeat' (first | exact trivial | exact Wk.same _ | refine ⟨?_, ?_⟩))
  refine abu (s := r10) 2 1048576 rfl (by omega) rfl rfl rfl rfl rfl (fun hz => ?_) (fun v11 r11 e11 b11 l11 => ?_)
  · rw [hz] at hsp
    repeat (first | apply y9 | apply za)
    exact aac hsp hso rfl rfl rfl rfl
  rw [e11] at hsp
  dsimp only [Option.bind_some] at hsp
  repeat' (first | (apply bn; (first | (apply bv; (apply bu (tt := tt); (focus (conv => lhs; whnf); try exact rfl); exact rfl)) | (apply dw; (apply di true tab; (focus (conv => lhs; whnf; arg 1; whnf; arg 2; whnf); try exact rfl); (first | exact trivial | (simp only [InR]; omega)); exact rfl)) | (apply gq; (apply yg tab; exact rfl; exact rfl; exact rfl; (focus (conv => lhs; whnf); try exact rfl); exact rfl; exact rfl; exact rfl; exact rfl)) | (apply wu; (apply aa; (apply wy (tt := tt); (focus (conv => lhs; whnf); try exact rfl)); (intro c h; cases h); exact rfl)) | (apply ak))) | (apply bq; (first | (apply bg) | (apply ah) | (apply dm; exact rfl; (exact rfl)) | (apply oo))) | (apply bf) | (apply ng) | (apply o9) | (apply pg))
  refine aa1 [(76, .ptr (σ.length + 2) 0), (4, .ptr (σ.length + 2) 0), (3, .ptr (σ.length + 1) 0), (2, .ptr (σ.length + 0) 0)] ?_ (zk (σ' := σ ++ [.cells [.int .i64 v1, .int .i64 v2, .int .i64 v3, .str nm, .int .i64 v5, .int .i64 v6, .int .i64 v7, .int .u32 v8, .int .i64 v9, .int .i64 v10, .int .i64 v11, .sl .ow 2 []], .cells [.int .i64 0], .cells [.str r11], .cells [.ptr (σ.length + 0) 4, .ptr (σ.length + 0) 5, .ptr (σ.length + 0) 6], .cells [.ptr (σ.length + 0) 8, .ptr (σ.length + 0) 9, .ptr (σ.length + 0) 10]]) rfl ?_)
  · (repeat' (first | exact trivial | exact Wk.same _ | refine ⟨?_, ?_⟩))
  refine abu (s := r11) 2 14 rfl (by omega) rfl rfl rfl rfl rfl (fun hz => ?_) (fun v12 r12 e12 b12 l12 => ?_)
  · rw [hz] at hsp
    repeat (first | apply y9 | apply za)
    exact aac hsp hso rfl rfl rfl rfl
  rw [e12] at hsp
  dsimp only [Option.bind_some] at hsp
  repeat' (first | (apply bn; (first | (apply bv; (apply bu (tt := tt); (focus (conv => lhs; whnf); try exact rfl); exact rfl)) | (apply ak))) | (apply bq; (apply ed)) | (apply bf))
  clear tT hT hT'
  refine acn (fun x : Nat × ByteArray × List (Int × Int) => [(77, .int .i64 v12), (78, .int .i64 x.1), (4, .ptr (σ.length + 2) 0), (3, .ptr (σ.length + 1) 0), (2, .ptr (σ.length + 0) 0)]) (fun x => σ ++ [.cells [.int .i64 v1, .int .i64 v2, .int .i64 v3, .str nm, .int .i64 v5, .int .i64 v6, .int .i64 v7, .int .u32 v8, .int .i64 v9, .int .i64 v10, .int .i64 v11, .sl .ow 2 (x.2.2.map plc)], .cells [.int .i64 0], .cells [.str x.2.1], .cells [.ptr (σ.length + 0) 4, .ptr (σ.length + 0) 5, .ptr (σ.length + 0) 6], .cells [.ptr (σ.length + 0) 8, .ptr (σ.length + 0) 9, .ptr (σ.length + 0) 10]])
    (fun x => x.1 ≤ v12 ∧ x.2.1.size ≤ s.size ∧ x.2.2.length = x.1 ∧ takeC s = (rdP (v12 - x.1) x.2.1 x.2.2).bind fun ps => ae6 ⟨v1, v2, v3, nm, v5, v6, v7, v8, v9, v10, v11, ps.1⟩ ps.2) (fun x => v12 - x.1) (0, r12, []) ⟨Nat.zero_le _, by show r12.size ≤ _; omega, rfl, hsp⟩ ?_ rfl ?_
  · (repeat' (first | exact trivial | exact Wk.same _ | refine ⟨?_, ?_⟩))
  clear hsp
  rintro ⟨i, r, acc⟩ ⟨hi, hrs, hal, hsp⟩
  dsimp only at hi hrs hal hsp ⊢
  by_cases hlt : i < v12
  · have d1 : decide ((i : Int) < (v12 : Int)) = true := decide_eq_true (by omega)
    rw [show v12 - i = (v12 - (i + 1)) + 1 by omega, rdP] at hsp
    repeat' (first | (apply bn; (first | (apply bv; (apply bu (tt := tt); (focus (conv => lhs; whnf); try exact rfl); exact rfl)) | (apply dw; (apply di true tab; (focus (conv => lhs; whnf; arg 1; whnf; arg 2; whnf); try exact rfl); (exact trivial); exact rfl)) | (apply ak))) | (apply bq; (first | (apply bg) | (apply ah) | (apply df; exact rfl; (assumption)) | (apply gz) | (apply ed))) | (apply bf))
    refine abu (s := r) 2 3 rfl (by omega) rfl rfl rfl rfl rfl (fun hz => ?_) (fun a ra e b l => ?_)
    · rw [hz] at hsp
      repeat (first | apply y9 | apply za)
      exact aac hsp hso rfl rfl rfl rfl
    rw [e] at hsp
    dsimp only [Option.bind_some] at hsp
    repeat' (first | (apply bn; (first | (apply bv; (apply bu (tt := tt); (focus (conv => lhs; whnf); try exact rfl); exact rfl)) | (apply gq; (apply yg tab; exact rfl; exact rfl; exact rfl; (focus (conv => lhs; whnf); try exact rfl); exact rfl; exact rfl; exact rfl; exact rfl)) | (apply pq; (apply aa; (apply gy tab.nils; exact rfl; (focus (conv => lhs; whnf; arg 1; whnf; arg 2; whnf); try skip)); (intro c h; cases h); exact rfl)) | (apply je; (apply ik tab; exact rfl; exact rfl; (exact (rfl : _ = 5)); exact rfl)) | (apply ak))) | (apply bq; (first | (apply bg) | (apply ah))) | (apply bf))
    refine abu (s := ra) 2 63 rfl (by omega) rfl rfl rfl rfl rfl (fun hz => ?_) (fun c rc e b l => ?_)
    · rw [hz] at hsp
      repeat (first | apply y9 | apply za)
      exact aac hsp hso rfl rfl rfl rfl
    rw [e] at hsp
    dsimp only [Option.bind_some] at hsp
    repeat' (first | (apply bn; (first | (apply bv; (apply bu (tt := tt); (focus (conv => lhs; whnf); try exact rfl); exact rfl)) | (apply dw; (apply di true tab; (focus (conv => lhs; whnf; arg 1; whnf; arg 2; whnf); try exact rfl); (simp only [InR]; omega); exact rfl)) | (apply fq; (first | (apply ahm tab (d := 87); exact rfl; exact rfl; exact rfl; exact rfl; exact rfl; exact rfl; exact rfl) | (apply aa; (apply aj tab; exact rfl; exact rfl; exact rfl; (focus (conv => lhs; whnf; arg 1; whnf; arg 2; whnf); try skip); (exact nlb rfl)); (intro c h; cases h); exact rfl))) | (apply jr; (apply qf tab; (focus (conv => lhs; whnf); try exact rfl); exact rfl; exact rfl; exact rfl; exact rfl; exact rfl; (focus (conv => lhs; whnf); try exact rfl); exact rfl; (simp only [List.length_map, List.length_append, List.length_cons, List.length_nil, List.length_take]; omega); (exact rfl); exact rfl)) | (apply cu; (apply aa; (apply af tab; exact rfl; (focus (conv => lhs; whnf); try exact rfl); exact rfl; (first | exact (rfl : _ = 1) | exact (rfl : _ = 11))); (intro c h; cases h); exact rfl)) | (apply gq; (first | (apply ug tab; exact rfl; exact rfl; exact rfl; exact rfl; (focus (conv => lhs; whnf); try exact rfl); exact rfl; exact rfl; (intro h; cases h)) | (apply dz tab; exact rfl; exact rfl; exact rfl; exact rfl; exact rfl; exact rfl; exact rfl; exact rfl))) | (apply mi; (apply mq .ow tab; exact rfl; (focus ((repeat (apply mh; (focus (conv => lhs; whnf); try exact rfl))); exact nk)); exact rfl; exact rfl; exact rfl; exact rfl; exact rfl; exact rfl)) | (apply ak))) | (apply bq; (apply ah)) | (apply bf) | (apply ng))
    refine ⟨(i + 1, rc, acc ++ [((a : Int), (c : Int))]), ⟨by show i + 1 ≤ _; omega, by show rc.size ≤ _; omega, by simp [hal], hsp⟩, by show v12 - (i + 1) < _; omega, ?_, ?_⟩
    · (repeat' (first | exact trivial | exact Wk.same _ | refine ⟨?_, ?_⟩))
    · rw [List.map_append]
      exact uo 5 rfl (by simp) (um hso (by simp [Ent.lt, o6, PV.lt, PV.cells, plc])) (vw (by simp [PV.lt, plc]))
  · have d1 : decide ((i : Int) < (v12 : Int)) = false := decide_eq_false (by omega)
    rw [show v12 - i = 0 by omega, rdP] at hsp
    dsimp only [Option.bind_some] at hsp
    have hm := aml ⟨v1, v2, v3, nm, v5, v6, v7, v8, v9, v10, v11, acc⟩ (by show acc.length ≤ _; omega) (by show nm.size ≤ _; omega)
    unfold ae6 at hsp
    by_cases g1 : r = ⟨#[]⟩
    · have f1 : wm r ⟨#[]⟩ = true := aa8.2 g1
      have f1' : (!wm r ⟨#[]⟩) = false := by rw [f1]; rfl
      by_cases g2 : vk ⟨v1, v2, v3, nm, v5, v6, v7, v8, v9, v10, v11, acc⟩ = true
      · rw [g2] at hm
        rw [if_pos ⟨g1, g2⟩] at hsp
        repeat' (first | (apply bn; (first | (apply jq; (apply jc; exact (rfl : _ = some _); exact (rfl : _ = PV.bool _); (assumption))) | (apply bv; (apply bu (tt := tt); (focus (conv => lhs; whnf); try exact rfl); exact rfl)) | (apply ji; (refine cz (tt := tt) afy (hm _) rfl rfl rfl rfl rfl ?_)) | (apply dw; (apply di true tab; (focus (conv => lhs; whnf; arg 1; whnf; arg 2; whnf); try exact rfl); (exact trivial); exact rfl)) | (apply kr; (apply ku (tt := tt); exact (rfl : _ = PV.bool _); (refine .inr ⟨by assumption, ?_⟩); (focus (conv => lhs; whnf); try exact rfl); exact ltn rfl)) | (apply fq; (apply aa; (apply aj tab; exact rfl; exact rfl; exact rfl; (focus (conv => lhs; whnf; arg 1; whnf; arg 2; whnf); try skip); (first | exact trivial | exact nlb rfl)); (intro c h; cases h); exact rfl)) | (apply cu; (apply aa; (apply af tab; exact rfl; (focus (conv => lhs; whnf); try exact rfl); exact rfl; (exact (rfl : _ = 0))); (intro c h; cases h); exact rfl)) | (apply qy; (apply pu (tt := tt) true; (focus (conv => lhs; whnf; arg 1; whnf; arg 2; whnf); try exact rfl); (exact trivial); exact rfl)) | (apply gq; (apply yg tab; exact rfl; exact rfl; exact rfl; (focus (conv => lhs; whnf); try exact rfl); exact rfl; exact rfl; exact rfl; exact rfl)) | (apply wu; (apply aa; (apply wy (tt := tt); (focus (conv => lhs; whnf); try exact rfl)); (intro c h; cases h); exact rfl)) | (apply ak))) | (apply bq; (first | (apply bg) | (apply ah) | (apply dm; exact rfl; (first | exact rfl | assumption)) | (apply gz) | (apply dn) | (apply oo))) | (apply bf) | (apply o9) | (apply pg))
        exact ajg (p := cm ⟨v1, v2, v3, nm, v5, v6, v7, v8, v9, v10, v11, acc⟩) (e := 0) hso ⟨_, rfl, by first | trivial | exact nlb rfl⟩ ⟨rfl, by simp [cm, o6, PV.lt]⟩ rfl rfl rfl (by rw [hsp]; rfl)
      · rw [show vk ⟨v1, v2, v3, nm, v5, v6, v7, v8, v9, v10, v11, acc⟩ = false by simpa using g2] at hm
        rw [if_neg (fun h => g2 h.2)] at hsp
        repeat' (first | (apply bn; (first | (apply jq; (apply jc; exact (rfl : _ = some _); exact (rfl : _ = PV.bool _); (assumption))) | (apply bv; (apply bu (tt := tt); (focus (conv => lhs; whnf); try exact rfl); exact rfl)) | (apply ji; (refine cz (tt := tt) afy (hm _) rfl rfl rfl rfl rfl ?_)) | (apply dw; (apply di true tab; (focus (conv => lhs; whnf; arg 1; whnf; arg 2; whnf); try exact rfl); (exact trivial); exact rfl)) | (apply kr; (apply ku (tt := tt); exact (rfl : _ = PV.bool _); (refine .inr ⟨by assumption, ?_⟩); (focus (conv => lhs; whnf); try exact rfl); exact ltn rfl)) | (apply fq; (apply aa; (apply aj tab; exact rfl; exact rfl; exact rfl; (focus (conv => lhs; whnf; arg 1; whnf; arg 2; whnf); try skip); (first | exact trivial | exact nlb rfl)); (intro c h; cases h); exact rfl)) | (apply cu; (apply aa; (apply af tab; exact rfl; (focus (conv => lhs; whnf); try exact rfl); exact rfl; (exact (rfl : _ = 0))); (intro c h; cases h); exact rfl)) | (apply qy; (apply pu (tt := tt) true; (focus (conv => lhs; whnf; arg 1; whnf; arg 2; whnf); try exact rfl); (exact trivial); exact rfl)) | (apply gq; (apply yg tab; exact rfl; exact rfl; exact rfl; (focus (conv => lhs; whnf); try exact rfl); exact rfl; exact rfl; exact rfl; exact rfl)) | (apply pq; (apply aa; (apply gy tab.nils; exact rfl; (focus (conv => lhs; whnf; arg 1; whnf; arg 2; whnf); try skip)); (intro c h; cases h); exact rfl)) | (apply wu; (apply aa; (apply wy (tt := tt); (focus (conv => lhs; whnf); try exact rfl)); (intro c h; cases h); exact rfl)) | (apply ak))) | (apply bq; (first | (apply bg) | (apply ah) | (apply df; exact rfl; (exact rfl)) | (apply dm; exact rfl; (assumption)) | (apply dn) | (apply oo))) | (apply bf) | (apply lq) | (apply o9) | (apply pg))
        exact ajg (p := cm ⟨0, 0, 0, ⟨#[]⟩, 0, 0, 0, 0, 0, 0, 0, []⟩) (e := 3) hso ⟨_, rfl, by first | trivial | exact nlb rfl⟩ ⟨rfl, by simp [cm, o6, PV.lt]⟩ rfl rfl rfl (by rw [hsp]; rfl)
    · have f1 : wm r ⟨#[]⟩ = false := by cases hb : wm r ⟨#[]⟩ with
        | false => rfl
        | true => exact absurd (aa8.1 hb) g1
      have f1' : (!wm r ⟨#[]⟩) = true := by rw [f1]; rfl
      rw [if_neg (fun h => g1 h.1)] at hsp
      repeat' (first | (apply bn; (first | (apply jq; (apply ky; exact (rfl : _ = some _); exact (rfl : _ = PV.bool _); (assumption); exact ltn rfl)) | (apply bv; (apply bu (tt := tt); (focus (conv => lhs; whnf); try exact rfl); exact rfl)) | (apply dw; (apply di true tab; (focus (conv => lhs; whnf; arg 1; whnf; arg 2; whnf); try exact rfl); (exact trivial); exact rfl)) | (apply kr; (apply ku (tt := tt); exact (rfl : _ = PV.bool _); (refine .inl ⟨by assumption, ?_⟩); (focus (conv => lhs; whnf); try exact rfl); exact ltn rfl)) | (apply fq; (apply aa; (apply aj tab; exact rfl; exact rfl; exact rfl; (focus (conv => lhs; whnf; arg 1; whnf; arg 2; whnf); try skip); (exact trivial)); (intro c h; cases h); exact rfl)) | (apply cu; (apply aa; (apply af tab; exact rfl; (focus (conv => lhs; whnf); try exact rfl); exact rfl; (exact (rfl : _ = 0))); (intro c h; cases h); exact rfl)) | (apply gq; (apply yg tab; exact rfl; exact rfl; exact rfl; (focus (conv => lhs; whnf); try exact rfl); exact rfl; exact rfl; exact rfl; exact rfl)) | (apply pq; (apply aa; (apply gy tab.nils; exact rfl; (focus (conv => lhs; whnf; arg 1; whnf; arg 2; whnf); try skip)); (intro c h; cases h); exact rfl)) | (apply wu; (apply aa; (apply wy (tt := tt); (focus (conv => lhs; whnf); try exact rfl)); (intro c h; cases h); exact rfl)) | (apply ak))) | (apply bq; (first | (apply bg) | (apply ah) | (apply df; exact rfl; (exact rfl)) | (apply dm; exact rfl; (assumption)) | (apply dn) | (apply oo))) | (apply bf) | (apply lq) | (apply o9) | (apply pg))
      exact ajg (p := cm ⟨0, 0, 0, ⟨#[]⟩, 0, 0, 0, 0, 0, 0, 0, []⟩) (e := 3) hso ⟨_, rfl, by first | trivial | exact nlb rfl⟩ ⟨rfl, by simp [cm, o6, PV.lt]⟩ rfl rfl rfl (by rw [hsp]; rfl)
end Go.Proofs.Ytbpjaiemlkcccaa.Pv
end
section
/- Builders of texts; numbers and texts as bytes. -/
namespace Go.Proofs.Ytbpjaiemlkcccaa.Pv
open Go
set_option maxRecDepth 100000
end Go.Proofs.Ytbpjaiemlkcccaa.Pv
end
section
/- A command's bytes, by the program and by the document. -/
namespace Go.Proofs.Ytbpjaiemlkcccaa.Pv
open Go
set_option maxRecDepth 100000
theorem ain (z : Int) (h0 : 0 ≤ z) (h1 : z < 18446744073709551616) (σ : Sto) : jo Try.prog 39 [.int .u64 z] σ fun r σ' => r = .str (o5 z.toNat) ∧ σ' = σ := by
  have h := aj2 z.toNat (by omega) σ
  rw [show ((z.toNat : Nat) : Int) = z by omega] at h; exact h
theorem xz (a b : ByteArray) : (a ++ b).size = a.size + b.size := ByteArray.size_append
theorem ae0 (a b c : ByteArray) : a ++ b ++ c = a ++ (b ++ c) := ByteArray.append_assoc
section
variable {P : Program} {l : Option Nat} {tt : TT} {n m : Nat} {all : Array Oper} {rest : List Oper} {env : Env} {σ : Sto} {Q : Post} {d : Nat} {ty : TypeId} {pos : String} {after : Array Edge}
end
def aam (s : ByteArray) (l : List Int) : ByteArray := l.foldl (fun s z => s ++ o5 z.toNat) s
theorem agj (s : ByteArray) : ∀ l : List Int, (∀ z ∈ l, 0 ≤ z ∧ z < 18446744073709551616) → (aam s l).size ≤ s.size + 10 * l.length := by
  intro l
  induction l generalizing s with
  | nil => intro _; simp [aam]
  | cons z r ih =>
    intro h
    have h1 := ih (s ++ o5 z.toNat) fun x hx => h x (List.mem_cons_of_mem _ hx)
    have h2 := xc (v := z.toNat) (by have := h z List.mem_cons_self; omega)
    have e : aam s (z :: r) = aam (s ++ o5 z.toNat) r := rfl
    rw [xz] at h1
    rw [e, List.length_cons]; omega
end Go.Proofs.Ytbpjaiemlkcccaa.Pv
end
section
/- A command's bytes, by the program. -/
namespace Go.Proofs.Ytbpjaiemlkcccaa.Pv
open Go
set_option maxRecDepth 100000
def cmH (c : Cm) : ByteArray := aam ⟨#[]⟩ [c.kind, c.client, c.seq]
def cmN (c : Cm) : List Int := [c.vol, c.off, c.n, c.sum, c.region, c.mate, c.idx, c.places.length]
def cmS (c : Cm) (i : Nat) : ByteArray := (c.places.take i).foldl (fun s p => aam s [p.1, p.2]) (aam (cmH c ++ zo c.name) (cmN c))
def cmB (c : Cm) : ByteArray := cmS c c.places.length
structure CmOK (c : Cm) : Prop where
  places : c.places.length ≤ 1048576
  name : c.name.size ≤ 1048576
  s0 : 0 ≤ c.sum
  s1 : c.sum < 4294967296
theorem anh {c : Cm} {i : Nat} (h : i < c.places.length) : cmS c (i + 1) = aam (cmS c i) [(c.places.getD i default).1, (c.places.getD i default).2] := by
  unfold cmS
  rw [List.take_succ_eq_append_getElem h, List.foldl_append, List.getD_eq_getElem?_getD, List.getElem?_eq_getElem h]; rfl
theorem ab5 {c : Cm} (h : vk c = true) : ((1 ≤ c.kind ∧ c.kind ≤ 9) ∧ (0 ≤ c.client ∧ c.client ≤ 16) ∧ (0 ≤ c.seq ∧ c.seq ≤ 1073741824) ∧ c.name.size ≤ 16 ∧ c.places.length ≤ 14) ∧
    (0 ≤ c.vol ∧ c.vol ≤ 1048576) ∧ (0 ≤ c.off ∧ c.off ≤ 1048576) ∧ (0 ≤ c.n ∧ c.n ≤ 1048576) ∧ (0 ≤ c.region ∧ c.region ≤ 1048576) ∧ (0 ≤ c.mate ∧ c.mate ≤ 1048576) ∧ (0 ≤ c.idx ∧ c.idx ≤ 1048576) ∧
    ∀ p ∈ c.places, (1 ≤ p.1 ∧ p.1 ≤ 3) ∧ (0 ≤ p.2 ∧ p.2 ≤ 63) := by
  simp only [vk, Bool.and_eq_true, af3, si, decide_eq_true_eq, List.all_eq_true, adm] at h
  obtain ⟨⟨h1, ⟨⟨h2, h3⟩, h4⟩, ⟨⟨h5, h6⟩, h7⟩⟩, h8⟩ := h
  exact ⟨h1, h2, h3, h4, h5, h6, h7, h8⟩
theorem asw {c : Cm} (hm : vk c = true) : 1 ≤ (cmH c).size ∧ (cmH c).size ≤ 30 := by
  obtain ⟨h1, _⟩ := ab5 hm
  refine ⟨?_, ?_⟩
  · have := atv (v := c.seq.toNat) (by omega)
    simp only [cmH, aam, List.foldl_cons, List.foldl_nil, xz]; omega
  · have := agj ⟨#[]⟩ [c.kind, c.client, c.seq] (by intro z hz; simp at hz; rcases hz with rfl | rfl | rfl <;> omega)
    exact this
theorem asn {c : Cm} (hm : vk c = true) : 1 ≤ (cmH c ++ zo c.name).size ∧ (cmH c ++ zo c.name).size ≤ 60 := by
  obtain ⟨h1, _⟩ := ab5 hm
  have h2 := asw hm
  have h3 := xc (v := c.name.size) (by omega)
  simp only [zo, xz]; omega
theorem axo {c : Cm} (hc : CmOK c) (hm : vk c = true) : ∀ z ∈ cmN c, 0 ≤ z ∧ z < 9223372036854775808 := by
  obtain ⟨h1, h2, h3, h4, h5, h6, h7, _⟩ := ab5 hm
  have := hc.s0; have := hc.s1
  intro z hz
  simp only [cmN, List.mem_cons, List.not_mem_nil, or_false] at hz
  rcases hz with rfl | rfl | rfl | rfl | rfl | rfl | rfl | rfl <;> omega
theorem ag1 {c : Cm} (hc : CmOK c) (hm : vk c = true) : ∀ i, i ≤ c.places.length → 1 ≤ (cmS c i).size ∧ (cmS c i).size ≤ 140 + i * 20
  | 0, _ => by
    have h1 := asn hm
    have h2 := agj (cmH c ++ zo c.name) (cmN c) fun z hz => by have := axo hc hm z hz; omega
    have h3 : (cmH c ++ zo c.name).size ≤ (aam (cmH c ++ zo c.name) (cmN c)).size := by
      simp only [aam, cmN, List.foldl_cons, List.foldl_nil, xz]; omega
    simp only [cmS, List.take_zero, List.foldl_nil]
    simp only [cmN, List.length_cons, List.length_nil] at h2
    have e : (aam (cmH c ++ zo c.name) (cmN c)).size ≤ (cmH c ++ zo c.name).size + 80 := h2
    omega
  | i + 1, h => by
    obtain ⟨k1, k2⟩ := ag1 hc hm i (by omega)
    obtain ⟨_, _, _, _, _, _, _, h8⟩ := ab5 hm
    have h9 := h8 _ (uq (xs := c.places) (i := i) (by omega))
    have := agj (cmS c i) [(c.places.getD i default).1, (c.places.getD i default).2] (by intro z hz; simp only [List.mem_cons, List.not_mem_nil, or_false] at hz; rcases hz with rfl | rfl <;> omega)
    have h10 : (cmS c i).size ≤ (aam (cmS c i) [(c.places.getD i default).1, (c.places.getD i default).2]).size := by
      simp only [aam, List.foldl_cons, List.foldl_nil, xz]; omega
    rw [anh (by omega)]
    simp only [List.length_cons, List.length_nil] at this
    omega
end Go.Proofs.Ytbpjaiemlkcccaa.Pv
end
section
/- What was written as bytes is taken as it was. -/
namespace Go.Proofs.Ytbpjaiemlkcccaa.Pv
open Go
set_option maxRecDepth 100000
theorem atq : ∀ (k : Nat) (acc : List Int), (∀ x ∈ acc, 0 ≤ x ∧ x ≤ 255) → ∀ x ∈ adl k acc, 0 ≤ x ∧ x ≤ 255 := by
  intro k
  induction k using Nat.strongRecOn with
  | _ k ih =>
    intro acc h
    by_cases h0 : k = 0
    · subst h0; rw [adu]; exact h
    · rw [afq h0]
      refine ih (k / 128) (Nat.div_lt_self (by omega) (by decide)) _ fun x hx => ?_
      rcases List.mem_cons.1 hx with rfl | hx
      · have := Nat.mod_lt k (show 0 < 128 by decide); omega
      · exact h x hx
theorem asf (v : Nat) : ∀ x ∈ aeu v, 0 ≤ x ∧ x ≤ 255 := atq _ _ fun x hx => by
  rw [List.mem_singleton] at hx; subst hx
  have := Nat.mod_lt v (show 0 < 128 by decide); omega
theorem aru : ∀ (k : Nat) (acc : List Int), k ≠ 0 → ∃ (d : Nat) (r : List Int), 1 ≤ d ∧ d < 128 ∧ adl k acc = ((d : Int) + 128) :: r := by
  intro k
  induction k using Nat.strongRecOn with
  | _ k ih =>
    intro acc h0
    rw [afq h0]
    by_cases h1 : k / 128 = 0
    · rw [h1, adu]
      exact ⟨k % 128, acc, by omega, Nat.mod_lt _ (by decide), rfl⟩
    · exact ih (k / 128) (Nat.div_lt_self (by omega) (by decide)) _ h1
theorem ar3 (v : Nat) : ∃ x r, aeu v = x :: r ∧ x ≠ 128 := by
  unfold aeu
  by_cases h : v / 128 = 0
  · rw [h, adu]; exact ⟨_, _, rfl, by have := Nat.mod_lt v (show 0 < 128 by decide); omega⟩
  · obtain ⟨d, r, h1, h2, h3⟩ := aru _ [((v % 128 : Nat) : Int)] h
    exact ⟨_, _, h3, by omega⟩
theorem as6 : ∀ (k : Nat) (acc r : List Int), k < 2 ^ 64 → tkN (adl k acc ++ r) 0 = tkN (acc ++ r) k := by
  intro k
  induction k using Nat.strongRecOn with
  | _ k ih =>
    intro acc r hk
    by_cases h0 : k = 0
    · subst h0; rw [adu]
    · rw [afq h0, ih (k / 128) (Nat.div_lt_self (by omega) (by decide)) _ _ (by omega), List.cons_append, tkN, if_neg (by omega), if_neg (by omega)]
      congr 1
      omega
theorem ak4 {v : Nat} (hv : v < 18446744073709551616) (r : ByteArray) : takeN (o5 v ++ r) = (v, r, 0) := by
  have hb : bi (o5 v ++ r) = aeu v ++ bi r := by rw [abf, o5, aqv (asf v)]
  obtain ⟨x, q, h1, h2⟩ := ar3 v
  have h3 : ada (aeu v ++ bi r) = (v, bi r, 0) := by
    unfold ada
    rw [if_neg (by rw [h1]; simp), if_neg (by rw [h1]; exact h2)]
    unfold aeu
    rw [as6 _ _ _ (by omega), List.cons_append, tkN, if_neg (by omega), if_pos (by have := Nat.mod_lt v (show 0 < 128 by decide); omega), List.nil_append]
    congr 1
    have := Nat.mod_lt v (show 0 < 128 by decide)
    omega
  unfold takeN
  rw [hb, h3]
  show (v, ofI (bi r), (0 : Int)) = _
  rw [amd]
theorem ayb (q t : ByteArray) {n : Nat} (h : n ≤ q.size) : (q ++ t).extract 0 n = q.extract 0 n := by
  apply ac5
  rw [ab4, ab4, abf, List.take_append_of_le_length (by rw [ac3]; exact h)]
theorem ay0 (q t : ByteArray) {n : Nat} (h : n ≤ q.size) : (q ++ t).extract n (q ++ t).size = q.extract n q.size ++ t := by
  apply ac5
  rw [abf, ab4, ab4, abf, List.take_of_length_le (by rw [← abf, ac3]; exact Nat.le_refl _), List.take_of_length_le (by rw [ac3]; exact Nat.le_refl _), List.drop_append_of_le_length (by rw [ac3]; exact h)]
theorem au9 (q : ByteArray) : q.extract 0 q.size = q := by
  apply ac5
  rw [ab4, List.drop_zero, List.take_of_length_le (by rw [ac3]; exact Nat.le_refl _)]
theorem aty (q : ByteArray) : q.extract q.size q.size = ⟨#[]⟩ := by
  apply ac5
  rw [ab4, List.drop_eq_nil_of_le (by rw [List.length_take, ac3]; omega)]; rfl
theorem ajh (t : ByteArray) : (⟨#[]⟩ : ByteArray) ++ t = t := by apply ac5; rw [abf]; rfl
theorem anf (t : ByteArray) : t ++ (⟨#[]⟩ : ByteArray) = t := by apply ac5; rw [abf]; exact List.append_nil _
theorem ap3 {t : ByteArray} {m : Nat} (h : t.size ≤ m) (hm : m ≤ 1048576) (r : ByteArray) : aci (zo t ++ r) m = (t, r, 0) := by
  unfold aci zo
  rw [ByteArray.append_assoc, ak4 (by omega)]
  dsimp only
  rw [if_neg (fun h => h rfl), if_neg (by omega), if_neg (by rw [ByteArray.size_append]; omega), ayb _ _ (Nat.le_refl _), ay0 _ _ (Nat.le_refl _), au9, aty, ajh]
end Go.Proofs.Ytbpjaiemlkcccaa.Pv
end
