import Derived.Test.YtbpjaiemlkcccaaLibK10
import Derived.Test.YtbpjaiemlkcccaaLibK0
import Derived.Test.YtbpjaiemlkcccaaLibK8
set_option linter.unusedVariables false
set_option linter.unusedSimpArgs false
section
/- A command's bytes, by the document. -/
namespace Go.Proofs.Ytbpjaiemlkcccaa.Pv
open Go
set_option maxRecDepth 100000
theorem aae (z : Int) (h0 : 0 ≤ z) (h1 : z < 9223372036854775808) (σ : Sto) : jo Try.prog 37 [.int .i64 z] σ fun r σ' => r = .str (o5 z.toNat) ∧ σ' = σ := by
  refine ny tab Try.func37 rfl (nlb rfl) (by decide) fun hso => oh ?_
  have hn := ain z h0 (by omega)
  repeat' (first | (apply bn; (first | (apply bv; (apply bu (tt := tt); (focus (conv => lhs; whnf); try exact rfl); exact rfl)) | (apply ai; (apply az (tt := tt); (focus (conv => lhs; whnf); try exact rfl); exact rfl)) | (apply ji; (refine cz (tt := tt) apw (hn _) rfl rfl rfl rfl rfl ?_)) | (apply tq; (apply pz true tab; (focus (conv => lhs; whnf; arg 1; whnf; arg 2; whnf); try exact rfl); (simp only [InR]; omega); exact rfl)) | (apply ak))) | (apply bq; (first | (apply bg) | (apply ah) | (apply dn))) | (apply bf))
  (change gu _ _ _ _ _ _ _; apply fu; (exact .inr rfl); (focus (repeat' (first | (apply lc; (focus (conv => lhs; whnf); try exact rfl); (exact Wk.same _)) | exact iq))); exact rfl; (exact rfl); exact Nat.le_refl _; (focus (repeat' (first | exact trivial | refine ⟨?_, ?_⟩))); exact hso)
  exact ⟨rfl, rfl⟩
theorem aot (c : Cm) : cmS c 0 = o5 c.kind.toNat ++ o5 c.client.toNat ++ o5 c.seq.toNat ++ zo c.name ++ o5 c.vol.toNat ++ o5 c.off.toNat ++ o5 c.n.toNat ++ o5 c.sum.toNat ++ o5 c.region.toNat ++ o5 c.mate.toNat ++ o5 c.idx.toNat ++ o5 c.places.length := by
  simp only [cmS, List.take_zero, List.foldl_nil, cmN, cmH, aam, List.foldl_cons, ajh, Int.toNat_natCast]
set_option maxHeartbeats 4000000 in
theorem alg (c : Cm) (hc : CmOK c) (σ : Sto) : jo Try.prog 22 [cm c] σ fun x σ' => x = (if vk c then .tup [.str (cmB c), .int .i64 0] else .tup [.str ⟨#[]⟩, .int .i64 1]) ∧ σ' = σ := by
  refine ny tab Try.func22 rfl (nlb rfl) (by decide) fun hso => oh ?_
  have hm := ahz c hc.places hc.name
  by_cases hM : vk c = true
  · rw [hM] at hm
    rw [if_pos hM]
    obtain ⟨k1, k2, k3, k4, k5, k6, k7, k8⟩ := ab5 hM
    have hs0 := hc.s0
    have hs1 := hc.s1
    have hl := hc.places
    have m1 := aae c.kind (by omega) (by omega)
    have m2 := aae c.client (by omega) (by omega)
    have m3 := aae c.seq (by omega) (by omega)
    have m4 := an6 c.name (by omega)
    have m5 := aae c.vol (by omega) (by omega)
    have m6 := aae c.off (by omega) (by omega)
    have m7 := aae c.n (by omega) (by omega)
    have m8 := ain c.sum (by omega) (by omega)
    have m9 := aae c.region (by omega) (by omega)
    have m10 := aae c.mate (by omega) (by omega)
    have m11 := aae c.idx (by omega) (by omega)
    have m12 : ∀ σ, jo Try.prog 37 [.int .i64 ((c.places.map plc).length : Nat)] σ fun r σ' => r = .str (o5 c.places.length) ∧ σ' = σ := by
      intro σ
      rw [List.length_map]
      have := aae (c.places.length : Nat) (by omega) (by omega) σ
      rw [Int.toNat_natCast] at this; exact this
    have b1 := xc (v := c.kind.toNat) (by omega)
    have b2 := xc (v := c.client.toNat) (by omega)
    have b3 := xc (v := c.seq.toNat) (by omega)
    have b4 : (zo c.name).size ≤ 30 := by have := xc (v := c.name.size) (by omega); simp only [zo, xz]; omega
    have b5 := xc (v := c.vol.toNat) (by omega)
    have b6 := xc (v := c.off.toNat) (by omega)
    have b7 := xc (v := c.n.toNat) (by omega)
    have b8 := xc (v := c.sum.toNat) (by omega)
    have b9 := xc (v := c.region.toNat) (by omega)
    have b10 := xc (v := c.mate.toNat) (by omega)
    have b11 := xc (v := c.idx.toNat) (by omega)
    have b12 := xc (v := c.places.length) (by omega)
    have q2 := xz (o5 c.kind.toNat) (o5 c.client.toNat)
    have q3 := xz (o5 c.kind.toNat ++ o5 c.client.toNat) (o5 c.seq.toNat)
    have q4 := xz (o5 c.kind.toNat ++ o5 c.client.toNat ++ o5 c.seq.toNat) (zo c.name)
    have q5 := xz (o5 c.kind.toNat ++ o5 c.client.toNat ++ o5 c.seq.toNat ++ zo c.name) (o5 c.vol.toNat)
    have q6 := xz (o5 c.kind.toNat ++ o5 c.client.toNat ++ o5 c.seq.toNat ++ zo c.name ++ o5 c.vol.toNat) (o5 c.off.toNat)
    have q7 := xz (o5 c.kind.toNat ++ o5 c.client.toNat ++ o5 c.seq.toNat ++ zo c.name ++ o5 c.vol.toNat ++ o5 c.off.toNat) (o5 c.n.toNat)
    have q8 := xz (o5 c.kind.toNat ++ o5 c.client.toNat ++ o5 c.seq.toNat ++ zo c.name ++ o5 c.vol.toNat ++ o5 c.off.toNat ++ o5 c.n.toNat) (o5 c.sum.toNat)
    have q9 := xz (o5 c.kind.toNat ++ o5 c.client.toNat ++ o5 c.seq.toNat ++ zo c.name ++ o5 c.vol.toNat ++ o5 c.off.toNat ++ o5 c.n.toNat ++ o5 c.sum.toNat) (o5 c.region.toNat)
    have q10 := xz (o5 c.kind.toNat ++ o5 c.client.toNat ++ o5 c.seq.toNat ++ zo c.name ++ o5 c.vol.toNat ++ o5 c.off.toNat ++ o5 c.n.toNat ++ o5 c.sum.toNat ++ o5 c.region.toNat) (o5 c.mate.toNat)
    have q11 := xz (o5 c.kind.toNat ++ o5 c.client.toNat ++ o5 c.seq.toNat ++ zo c.name ++ o5 c.vol.toNat ++ o5 c.off.toNat ++ o5 c.n.toNat ++ o5 c.sum.toNat ++ o5 c.region.toNat ++ o5 c.mate.toNat) (o5 c.idx.toNat)
    have q12 := xz (o5 c.kind.toNat ++ o5 c.client.toNat ++ o5 c.seq.toNat ++ zo c.name ++ o5 c.vol.toNat ++ o5 c.off.toNat ++ o5 c.n.toNat ++ o5 c.sum.toNat ++ o5 c.region.toNat ++ o5 c.mate.toNat ++ o5 c.idx.toNat) (o5 c.places.length)
    repeat' (first | (apply bn; (first | (apply bv; (apply bu (tt := tt); (focus (conv => lhs; whnf); try exact rfl); exact rfl)) | (apply ai; (apply az (tt := tt); (focus (conv => lhs; whnf); try exact rfl); exact rfl)) | (apply ji; (refine cz (tt := tt) aah (hm _) rfl rfl rfl rfl rfl ?_)) | (apply dw; (apply di true tab; (focus (conv => lhs; whnf; arg 1; whnf; arg 2; whnf); try exact rfl); (omega); exact rfl)) | (apply fq; (apply aa; (apply aj tab; exact rfl; exact rfl; exact rfl; (focus (conv => lhs; whnf; arg 1; whnf; arg 2; whnf); try skip); (exact nlb rfl)); (intro c h; cases h); exact rfl)) | (apply qy; (apply pu (tt := tt) true; (focus (conv => lhs; whnf; arg 1; whnf; arg 2; whnf); try exact rfl); (exact trivial); exact rfl)) | (apply lu; (apply kg (tt := tt); (focus (conv => lhs; whnf); try exact rfl); exact rfl; (exact (rfl : _ = 0)); exact rfl)) | (apply ak))) | (apply bq; (first | (apply bg) | (apply ah) | (apply dm; exact rfl; (exact rfl)) | (apply gz) | (apply ed) | (apply ko (k := 26); exact mixed; decide +kernel; decide +kernel) | (apply ko (k := 22); exact mixed; decide +kernel; decide +kernel))) | (apply bf) | (apply p9; (first | (refine og (nu (tt := tt) adb (m1 _) rfl rfl rfl rfl rfl) ?_) | (refine og (nu (tt := tt) adb (m2 _) rfl rfl rfl rfl rfl) ?_) | (refine og (nu (tt := tt) adb (m3 _) rfl rfl rfl rfl rfl) ?_) | (refine og (nu (tt := tt) ayf (m4 _) rfl rfl rfl rfl rfl) ?_) | (refine og (nu (tt := tt) adb (m5 _) rfl rfl rfl rfl rfl) ?_) | (refine og (nu (tt := tt) adb (m6 _) rfl rfl rfl rfl rfl) ?_) | (refine og (nu (tt := tt) adb (m7 _) rfl rfl rfl rfl rfl) ?_) | (refine og (nu (tt := tt) apw (m8 _) rfl rfl rfl rfl rfl) ?_) | (refine og (nu (tt := tt) adb (m9 _) rfl rfl rfl rfl rfl) ?_) | (refine og (nu (tt := tt) adb (m10 _) rfl rfl rfl rfl rfl) ?_) | (refine og (nu (tt := tt) adb (m11 _) rfl rfl rfl rfl rfl) ?_) | (refine og (nu (tt := tt) adb (m12 _) rfl rfl rfl rfl rfl) ?_) | (apply p8; (first | (apply jg; (apply jf (tt := tt); (focus (conv => lhs; whnf); try exact rfl))) | (apply kv; (apply ek true tab; (focus (conv => lhs; whnf; arg 1; whnf; arg 2; whnf); try exact rfl); (omega))) | (apply lm; (apply d9 true tab; (focus (conv => lhs; whnf; arg 1; whnf; arg 2; whnf); try exact rfl); (simp only [InR]; omega))) | (apply dh; (first | (apply af tab; exact rfl; (focus (conv => lhs; whnf); try exact rfl); exact rfl; (first | exact (rfl : _ = 0) | exact (rfl : _ = 1) | exact (rfl : _ = 2) | exact (rfl : _ = 5) | exact (rfl : _ = 6) | exact (rfl : _ = 10) | exact (rfl : _ = 11))) | (apply gp tab; (focus (conv => lhs; whnf; arg 1; whnf; arg 2; whnf); try exact rfl); (exact Nat.ne_of_beq_eq_false rfl)))) | (apply gm; (apply aj tab; exact rfl; exact rfl; exact rfl; (focus (conv => lhs; whnf; arg 1; whnf; arg 2; whnf); try skip); (exact trivial))) | (apply jv; (apply mf tab; (focus (conv => lhs; whnf; arg 1; whnf; arg 2; whnf); try exact rfl); (exact trivial)))); exact rfl; exact rfl) | (apply oz))))
    clear m1 m2 m3 m4 m5 m6 m7 m8 m9 m10 m11 m12
    have y0 := ag1 hc hM 0 (Nat.zero_le _)
    refine acn (fun i : Nat => [(1, .ptr (σ.length + 0) 0), (5, .str (cmS c i)), (6, .int .i64 i)]) (fun i => σ ++ [.cells (cm c).cells]) (fun i => i ≤ c.places.length) (fun i => c.places.length - i) 0 (Nat.zero_le _) ?_ rfl ?_
    · rw [aot]
      (repeat' (first | exact trivial | exact Wk.same _ | refine ⟨?_, ?_⟩))
    rintro i hi
    obtain ⟨y1, y2⟩ := ag1 hc hM i hi
    rcases Nat.lt_or_ge i c.places.length with hlt | hge
    · have c1 : decide ((i : Int) < (c.places.length : Int)) = true := decide_eq_true (by omega)
      have c1m : decide ((i : Int) < ((c.places.map plc).length : Int)) = true := by rw [List.length_map]; exact c1
      have h9 := k8 _ (uq (xs := c.places) (i := ((i : Nat) : Int).toNat) (by rw [Int.toNat_natCast]; exact hlt))
      have hst : cmS c (i + 1) = cmS c i ++ o5 (c.places.getD ((i : Nat) : Int).toNat default).1.toNat ++ o5 (c.places.getD ((i : Nat) : Int).toNat default).2.toNat := by rw [anh hlt, Int.toNat_natCast]; rfl
      have n1 := aae (c.places.getD ((i : Nat) : Int).toNat default).1 (by omega) (by omega)
      have n2 := aae (c.places.getD ((i : Nat) : Int).toNat default).2 (by omega) (by omega)
      have s1 := xc (v := (c.places.getD ((i : Nat) : Int).toNat default).1.toNat) (by omega)
      have s2 := xc (v := (c.places.getD ((i : Nat) : Int).toNat default).2.toNat) (by omega)
      have s4 := xz (cmS c i) (o5 (c.places.getD ((i : Nat) : Int).toNat default).1.toNat)
      repeat' (first | (apply bn; (first | (apply bv; (apply bu (tt := tt); (focus (conv => lhs; whnf); try exact rfl); exact rfl)) | (apply ai; (apply az (tt := tt); (focus (conv => lhs; whnf); try exact rfl); exact rfl)) | (apply dw; (apply di true tab; (focus (conv => lhs; whnf; arg 1; whnf; arg 2; whnf); try exact rfl); (first | exact trivial | omega | (simp only [InR]; omega)); exact rfl)) | (apply fq; (apply aa; (apply aj tab; exact rfl; exact rfl; exact rfl; (focus (conv => lhs; whnf; arg 1; whnf; arg 2; whnf); try skip); (exact trivial)); (intro c h; cases h); exact rfl)) | (apply jr; (apply ni tab; (focus (conv => lhs; whnf; arg 1; whnf; arg 2; whnf); try exact rfl); (exact trivial); exact rfl)) | (apply cu; (apply aa; (apply af tab; exact rfl; (focus (conv => lhs; whnf); try exact rfl); exact rfl; (exact (rfl : _ = 11))); (intro c h; cases h); exact rfl)) | (apply ak))) | (apply bq; (first | (apply bg) | (apply ah) | (apply df; exact rfl; (assumption)) | (apply gz) | (apply ed) | (apply ko (k := 16); exact mixed; decide +kernel; decide +kernel))) | (apply bf) | (apply ng) | (apply p9; (first | (refine og (nu (tt := tt) adb (n1 _) rfl rfl rfl rfl rfl) ?_) | (refine og (nu (tt := tt) adb (n2 _) rfl rfl rfl rfl rfl) ?_) | (apply p8; (first | (apply au; exact fw (tI := 3) _ tab rfl (by (focus (conv => lhs; whnf); try exact rfl)) (by (focus (conv => lhs; whnf); try exact rfl)) rfl (by (omega)) (by (omega)) (by (focus (conv => lhs; whnf); try exact rfl))) | (apply jg; (apply jf (tt := tt); (focus (conv => lhs; whnf); try exact rfl))) | (apply kv; (apply ek true tab; (focus (conv => lhs; whnf; arg 1; whnf; arg 2; whnf); try exact rfl); (omega))) | (apply dh; (first | (apply af tab; exact rfl; (focus (conv => lhs; whnf); try exact rfl); exact rfl; (exact (rfl : _ = 11))) | (apply bz tab; exact rfl; (focus (conv => lhs; whnf); try exact rfl); exact rfl; exact rfl; (focus (conv => lhs; whnf); try exact rfl)))) | (apply gm; (first | (apply aj tab; exact rfl; exact rfl; exact rfl; (focus (conv => lhs; whnf; arg 1; whnf; arg 2; whnf); try skip); (exact trivial)) | (apply j6 tab; (focus (conv => lhs; whnf; arg 1; whnf; arg 2; whnf); try skip); (exact trivial))))); exact rfl; exact rfl) | (apply oz))))
      refine ⟨i + 1, by omega, by omega, ?_, ?_⟩
      · rw [hst]
        (repeat' (first | exact trivial | exact Wk.same _ | refine ⟨?_, ?_⟩))
      · exact uo 1 rfl (by simp) (um hso (by simp [Ent.lt, o6, PV.lt, PV.cells, cm, plc])) (vw (by simp [PV.lt, cm, plc]))
    · have c1 : decide ((i : Int) < (c.places.length : Int)) = false := decide_eq_false (by omega)
      have c1m : decide ((i : Int) < ((c.places.map plc).length : Int)) = false := by rw [List.length_map]; exact c1
      have hii : i = c.places.length := by omega
      subst hii
      repeat' (first | (apply bn; (first | (apply bv; (apply bu (tt := tt); (focus (conv => lhs; whnf); try exact rfl); exact rfl)) | (apply ai; (apply az (tt := tt); (focus (conv => lhs; whnf); try exact rfl); exact rfl)) | (apply dw; (apply di true tab; (focus (conv => lhs; whnf; arg 1; whnf; arg 2; whnf); try exact rfl); (exact trivial); exact rfl)) | (apply fq; (apply aa; (apply aj tab; exact rfl; exact rfl; exact rfl; (focus (conv => lhs; whnf; arg 1; whnf; arg 2; whnf); try skip); (exact trivial)); (intro c h; cases h); exact rfl)) | (apply jr; (apply ni tab; (focus (conv => lhs; whnf; arg 1; whnf; arg 2; whnf); try exact rfl); (exact trivial); exact rfl)) | (apply cu; (apply aa; (apply af tab; exact rfl; (focus (conv => lhs; whnf); try exact rfl); exact rfl; (exact (rfl : _ = 11))); (intro c h; cases h); exact rfl)) | (apply ak))) | (apply bq; (first | (apply bg) | (apply ah) | (apply dm; exact rfl; (assumption)) | (apply dn) | (apply oo))) | (apply bf) | (apply o9) | (apply pg))
      (change gu _ _ _ _ _ _ _; apply fu; (exact .inr rfl); (focus (repeat' (first | (apply lc; (focus (conv => lhs; whnf); try exact rfl); (exact Wk.same _)) | exact iq))); exact rfl; (exact rfl); exact Nat.le_refl _; (focus (repeat' (first | exact trivial | refine ⟨?_, ?_⟩))); exact hso)
      exact ⟨rfl, rfl⟩
  · have hM' : vk c = false := by simpa using hM
    rw [hM'] at hm
    rw [if_neg hM]
    repeat' (first | (apply bn; (first | (apply bv; (apply bu (tt := tt); (focus (conv => lhs; whnf); try exact rfl); exact rfl)) | (apply ai; (apply az (tt := tt); (focus (conv => lhs; whnf); try exact rfl); exact rfl)) | (apply ji; (refine cz (tt := tt) aah (hm _) rfl rfl rfl rfl rfl ?_)) | (apply fq; (apply aa; (apply aj tab; exact rfl; exact rfl; exact rfl; (focus (conv => lhs; whnf; arg 1; whnf; arg 2; whnf); try skip); (exact nlb rfl)); (intro c h; cases h); exact rfl)) | (apply qy; (apply pu (tt := tt) true; (focus (conv => lhs; whnf; arg 1; whnf; arg 2; whnf); try exact rfl); (exact trivial); exact rfl)) | (apply lu; (apply kg (tt := tt); (focus (conv => lhs; whnf); try exact rfl); exact rfl; (exact (rfl : _ = 0)); exact rfl)) | (apply ak))) | (apply bq; (first | (apply bg) | (apply ah) | (apply df; exact rfl; (exact rfl)) | (apply dn))) | (apply bf) | (apply lq))
    (change gu _ _ _ _ _ _ _; apply fu; (exact .inr rfl); (focus (repeat' (first | (apply lc; (focus (conv => lhs; whnf); try exact rfl); (exact Wk.same _)) | exact iq))); exact rfl; (exact rfl); exact Nat.le_refl _; (focus (repeat' (first | exact trivial | refine ⟨?_, ?_⟩))); exact hso)
    exact ⟨rfl, rfl⟩
end Go.Proofs.Ytbpjaiemlkcccaa.Pv
end
section
/- A command is taken from its bytes as it was. -/
namespace Go.Proofs.Ytbpjaiemlkcccaa.Pv
open Go
set_option maxRecDepth 100000
def ahx (s : ByteArray) : Option (Cm × ByteArray) :=
  (rdN s 9).bind fun k => (rdN k.2 16).bind fun cl => (rdN cl.2 1073741824).bind fun sq => (rdT sq.2).bind fun nm =>
  (rdN nm.2 1048576).bind fun vo => (rdN vo.2 1048576).bind fun off => (rdN off.2 1048576).bind fun n => (rdN n.2 4294967295).bind fun su =>
  (rdN su.2 1048576).bind fun re => (rdN re.2 1048576).bind fun ma => (rdN ma.2 1048576).bind fun idx => (rdN idx.2 14).bind fun m =>
  (rdP m.1 m.2 []).bind fun ps => some (⟨k.1, cl.1, sq.1, nm.1, vo.1, off.1, n.1, su.1, re.1, ma.1, idx.1, ps.1⟩, ps.2)
theorem age (s : ByteArray) : takeC s = (ahx s).bind fun q => ae6 q.1 q.2 := by
  unfold takeC ahx
  simp only [Option.bind_assoc, Option.bind_some]
theorem aa0 {z : Int} {top : Nat} (h0 : 0 ≤ z) (h : z ≤ top) (ht : top < 18446744073709551616) (r : ByteArray) : rdN (o5 z.toNat ++ r) top = some (z.toNat, r) := by
  have e := ak4 (v := z.toNat) (by omega) r
  unfold rdN
  have h2 : okN (o5 z.toNat ++ r) top := by unfold okN; rw [e]; exact ⟨rfl, by show z.toNat ≤ top; omega⟩
  rw [if_pos h2, e]
theorem atl {t : ByteArray} (h : t.size ≤ 16) (r : ByteArray) : rdT (zo t ++ r) = some (t, r) := by
  have e := ap3 (m := 16) h (by decide) r
  unfold rdT
  rw [e, if_pos rfl]
def plB : List (Int × Int) → ByteArray
  | [] => ⟨#[]⟩
  | p :: r => o5 p.1.toNat ++ (o5 p.2.toNat ++ plB r)
theorem akn : ∀ (l : List (Int × Int)) (s : ByteArray), l.foldl (fun s p => aam s [p.1, p.2]) s = s ++ plB l
  | [], s => by simp only [List.foldl_nil, plB, anf]
  | p :: r, s => by
    rw [List.foldl_cons, akn r]
    simp only [aam, List.foldl_cons, List.foldl_nil, plB, ae0]
theorem axr (c : Cm) : cmB c = cmS c 0 ++ plB c.places := by
  unfold cmB cmS
  rw [List.take_length, akn, List.take_zero, List.foldl_nil]
theorem aoi : ∀ (l acc : List (Int × Int)) (t : ByteArray), (∀ p ∈ l, (1 ≤ p.1 ∧ p.1 ≤ 3) ∧ (0 ≤ p.2 ∧ p.2 ≤ 63)) → rdP l.length (plB l ++ t) acc = some (acc ++ l, t)
  | [], acc, t, _ => by simp only [List.length_nil, rdP, plB, ajh, List.append_nil]
  | p :: r, acc, t, h => by
    have h1 := h p List.mem_cons_self
    rw [List.length_cons, rdP, plB, ae0, ae0, aa0 (by omega) (by omega) (by decide), Option.bind_some]
    dsimp only
    rw [aa0 (by omega) (by omega) (by decide), Option.bind_some]
    dsimp only
    rw [show ((p.1.toNat : Nat) : Int) = p.1 by omega, show ((p.2.toNat : Nat) : Int) = p.2 by omega, aoi r _ t fun q hq => h q (List.mem_cons_of_mem _ hq)]
    simp
theorem aqd {c : Cm} (hc : CmOK c) (hm : vk c = true) (t : ByteArray) : ahx (cmB c ++ t) = some (c, t) := by
  obtain ⟨⟨k1, k2, k3, k4, k5⟩, n1, n2, n3, n4, n5, n6, hp⟩ := ab5 hm
  have s0 := hc.s0
  have s1 := hc.s1
  have e12 : o5 c.places.length = o5 ((c.places.length : Nat) : Int).toNat := by rw [Int.toNat_natCast]
  rw [axr, aot, e12]
  simp only [ae0]
  unfold ahx
  rw [aa0 (by omega) (by omega) (by decide), Option.bind_some]; dsimp only
  rw [aa0 (by omega) (by omega) (by decide), Option.bind_some]; dsimp only
  rw [aa0 (by omega) (by omega) (by decide), Option.bind_some]; dsimp only
  rw [atl k4, Option.bind_some]; dsimp only
  rw [aa0 (by omega) (by omega) (by decide), Option.bind_some]; dsimp only
  rw [aa0 (by omega) (by omega) (by decide), Option.bind_some]; dsimp only
  rw [aa0 (by omega) (by omega) (by decide), Option.bind_some]; dsimp only
  rw [aa0 (by omega) (by omega) (by decide), Option.bind_some]; dsimp only
  rw [aa0 (by omega) (by omega) (by decide), Option.bind_some]; dsimp only
  rw [aa0 (by omega) (by omega) (by decide), Option.bind_some]; dsimp only
  rw [aa0 (by omega) (by omega) (by decide), Option.bind_some]; dsimp only
  rw [aa0 (by omega) (by omega) (by decide), Option.bind_some]; dsimp only
  rw [Int.toNat_natCast, aoi c.places [] t hp, Option.bind_some]
  have e : ∀ z : Int, 0 ≤ z → ((z.toNat : Nat) : Int) = z := fun z h => by omega
  rw [e _ (by omega), e _ (by omega), e _ (by omega), e _ (by omega), e _ (by omega), e _ (by omega), e _ (by omega), e _ (by omega), e _ (by omega), e _ (by omega)]
  rfl
theorem ao3 {c : Cm} (hc : CmOK c) (hm : vk c = true) : takeC (cmB c) = some c := by
  have h := aqd hc hm ⟨#[]⟩
  rw [anf] at h
  rw [age, h, Option.bind_some, ae6, if_pos ⟨rfl, hm⟩]
end Go.Proofs.Ytbpjaiemlkcccaa.Pv
end
section
/- What a log has done: facts; plain. -/
namespace Go.Proofs.Ytbpjaiemlkcccaa.Pv
open Go
set_option maxRecDepth 100000
structure Ft where
  at_ : Int
  client : Int
  seq : Int
  kind : Int
  name : ByteArray
  r : Rp
  deriving Inhabited, DecidableEq
def ft (f : Ft) : PV := .agg [.int .i64 f.at_, .int .i64 f.client, .int .i64 f.seq, .int .i64 f.kind, .str f.name, .int .i64 f.r.err, .int .i64 f.r.vol, .int .i64 f.r.off, .int .i64 f.r.n, .int .u32 f.r.sum, .bool f.r.found]
def as3 (i : Nat) (c : Cm) (r : Rp) : Ft := ⟨(i : Int) + 1, c.client, c.seq, c.kind, c.name, r⟩
def afd (x : Ix) (c : Cm) : Bool := decide (0 < c.client) && (!decide (0 ≤ uw x c.client) || decide ((ad8 x c.client).seq < c.seq))
def ac7 (x : Ix) (s : ByteArray) : Ix × Rp := match takeC s with
  | none => (x, refuse 3)
  | some c => doX x c
def stepT (i : Nat) (q : Ix × List Ft) (s : ByteArray) : Ix × List Ft := match takeC s with
  | none => q
  | some c => ((doX q.1 c).1, if afd q.1 c then q.2 ++ [as3 i c (doX q.1 c).2] else q.2)
def uh (l : List ByteArray) : Nat → Ix × List Ft
  | 0 => (ix0, [])
  | i + 1 => stepT i (uh l i) (l.getD i default)
def aaj (l : List ByteArray) : Ix × List Ft := uh l l.length
theorem aiy {l l' : List ByteArray} : ∀ {i : Nat}, (∀ j, j < i → l.getD j default = l'.getD j default) → uh l i = uh l' i
  | 0, _ => rfl
  | i + 1, h => by rw [uh, uh, aiy fun j hj => h j (by omega), h i (by omega)]
theorem aqb {s : ByteArray} (h : (takeN s).2.2 = 0) : (takeN s).2.1.size + 1 ≤ s.size := by
  have key : ∀ (l : List Int) (v : Nat), (tkN l v).2.2 = 0 → (tkN l v).2.1.length + 1 ≤ l.length := by
    intro l
    induction l with
    | nil => intro v h; simp [tkN] at h
    | cons b r ih =>
      intro v h
      rw [tkN] at h ⊢
      split at h
      · simp at h
      · rename_i h1
        rw [if_neg h1]
        split at h
        · rename_i h2
          rw [if_pos h2]; simp
        · rename_i h2
          rw [if_neg h2]
          have := ih _ h
          simp only [List.length_cons]; omega
  have hl : (ada (bi s)).2.2 = 0 := h
  have : (ada (bi s)).2.1.length + 1 ≤ (bi s).length := by
    unfold ada at hl ⊢
    split at hl
    · simp at hl
    · rename_i h1
      rw [if_neg h1]
      split at hl
      · simp at hl
      · rename_i h2
        rw [if_neg h2]
        exact key _ _ hl
  rw [ac3] at this
  show (ofI _).size + 1 ≤ _
  rw [aed]; exact this
theorem aa2 {s r : ByteArray} {top v : Nat} (h : rdN s top = some (v, r)) : r.size + 1 ≤ s.size := by
  unfold rdN at h
  split at h
  · rename_i h1; cases h; exact aqb h1.1
  · cases h
theorem aps {s : ByteArray} {c : Cm} (h : takeC s = some c) : 11 ≤ s.size := by
  rw [age, Option.bind_eq_some_iff] at h
  obtain ⟨⟨d, r⟩, h, _⟩ := h
  unfold ahx at h
  simp only [Option.bind_eq_some_iff] at h
  obtain ⟨⟨k, r1⟩, h1, ⟨cl, r2⟩, h2, ⟨sq, r3⟩, h3, ⟨nm, r4⟩, h4, ⟨vo, r5⟩, h5, ⟨off, r6⟩, h6, ⟨n, r7⟩, h7, ⟨su, r8⟩, h8, ⟨re, r9⟩, h9, ⟨ma, r10⟩, h10, ⟨idx, r11⟩, h11, ⟨m, r12⟩, h12, _⟩ := h
  have b1 : r1.size + 1 ≤ s.size := aa2 h1
  have b2 : r2.size + 1 ≤ r1.size := aa2 h2
  have b3 : r3.size + 1 ≤ r2.size := aa2 h3
  have b4 : r4.size ≤ r3.size := (aht h4).1
  have b5 : r5.size + 1 ≤ r4.size := aa2 h5
  have b6 : r6.size + 1 ≤ r5.size := aa2 h6
  have b7 : r7.size + 1 ≤ r6.size := aa2 h7
  have b8 : r8.size + 1 ≤ r7.size := aa2 h8
  have b9 : r9.size + 1 ≤ r8.size := aa2 h9
  have b10 : r10.size + 1 ≤ r9.size := aa2 h10
  have b11 : r11.size + 1 ≤ r10.size := aa2 h11
  have b12 : r12.size + 1 ≤ r11.size := aa2 h12
  omega
theorem am9 {s : ByteArray} {c : Cm} (h : takeC s = some c) : vk c = true ∧ c.places.length ≤ 14 ∧ c.name.size ≤ 16 := by
  have hm : vk c = true := by
    rw [age, Option.bind_eq_some_iff] at h
    obtain ⟨q, _, h2⟩ := h
    unfold ae6 at h2
    split at h2
    · rename_i h3; cases h2; exact h3.2
    · cases h2
  exact ⟨hm, (ab5 hm).1.2.2.2.2, (ab5 hm).1.2.2.2.1⟩
def ab0 (l : List ByteArray) : Nat → Nat
  | 0 => 0
  | i + 1 => ab0 l i + (l.getD i default).size
theorem amw (l : List ByteArray) : ∀ i, OkB (14 + ab0 l i / 2) (uh l i).1
  | 0 => ⟨Nat.zero_le _, Nat.zero_le _, Nat.zero_le _, fun v hv => by simp [uh, ix0] at hv, fun v hv => by simp [uh, ix0] at hv⟩
  | i + 1 => by
    have ih := amw l i
    rw [uh, stepT, ab0]
    cases h : takeC (l.getD i default) with
    | none => exact ih.up (by omega)
    | some c =>
      have := aps h
      exact (awh ih (by omega)).up (by omega)
theorem asl : ∀ (l : List ByteArray), ab0 l l.length + l.length ≤ ww (l.map .str) := by
  have h1 : ∀ (r : List ByteArray) (l : List ByteArray), ab0 (l ++ r) l.length = ab0 l l.length := by
    intro r l
    have : ∀ i, i ≤ l.length → ab0 (l ++ r) i = ab0 l i := by
      intro i
      induction i with
      | zero => intro _; rfl
      | succ i ih =>
        intro h
        rw [ab0, ab0, ih (by omega), List.getD_eq_getElem?_getD, List.getD_eq_getElem?_getD, List.getElem?_append_left (by omega)]
    exact this _ (Nat.le_refl _)
  have h2 : ∀ n (l : List ByteArray), l.length = n → ab0 l l.length + l.length ≤ ww (l.map .str) := by
    intro n
    induction n with
    | zero => intro l hl; have := List.length_eq_zero_iff.1 hl; subst this; exact Nat.zero_le _
    | succ n ih =>
      intro l hl
      have hne : l ≠ [] := by intro e; subst e; cases hl
      obtain ⟨a, s, rfl⟩ : ∃ a s, l = a ++ [s] := ⟨l.dropLast, l.getLast hne, (List.dropLast_concat_getLast hne).symm⟩
      have hal : a.length = n := by simpa using hl
      have := ih a hal
      rw [List.length_append, List.length_singleton, ab0, h1, List.map_append, ad2, List.getD_eq_getElem?_getD, List.getElem?_append_right (Nat.le_refl _), Nat.sub_self]
      simp only [List.map_cons, List.map_nil, ww, PV.wt, List.getElem?_cons_zero, Option.getD_some]
      omega
  exact fun l => h2 _ l rfl
theorem ao8 (l : List ByteArray) : ∀ {i j}, i ≤ j → ab0 l i ≤ ab0 l j := by
  intro i j h
  induction h with
  | refl => exact Nat.le_refl _
  | step h ih => rw [ab0]; omega
theorem af0 (l : List ByteArray) : ∀ i, (uh l i).2.length ≤ i
  | 0 => Nat.le_refl _
  | i + 1 => by
    have ih := af0 l i
    rw [uh, stepT]
    split
    · omega
    · dsimp only
      split
      · rw [List.length_append, List.length_singleton]; omega
      · omega
end Go.Proofs.Ytbpjaiemlkcccaa.Pv
end
section
/- What a log has done, by the program. -/
namespace Go.Proofs.Ytbpjaiemlkcccaa.Pv
open Go
set_option maxRecDepth 100000
set_option maxHeartbeats 2000000 in
theorem ao2 (x : Ix) (s : ByteArray) (hs : s.size ≤ 9223372036854775807) (hx : OkI x) (σ : Sto) : jo Try.prog 25 [ix x, .str s] σ fun r σ' => r = .tup [ix (ac7 x s).1, rp (ac7 x s).2] ∧ σ' = σ := by
  have ht := alb s hs
  cases hc : takeC s with
  | none =>
    have e : ac7 x s = (x, refuse 3) := by unfold ac7; rw [hc]
    rw [e]
    rw [hc] at ht
    dsimp only [afx] at ht
    have hn := rz 3
    refine ny tab Try.func25 rfl (nlb rfl) (by decide) fun hso => oh ?_
    repeat' (first | (apply bn; (first | (apply bv; (apply bu (tt := tt); (focus (conv => lhs; whnf); try exact rfl); exact rfl)) | (apply ai; (apply az (tt := tt); (focus (conv => lhs; whnf); try exact rfl); exact rfl)) | (apply ji; (refine cz (tt := tt) ahd (ht _) rfl rfl rfl rfl rfl ?_)) | (apply dw; (apply di true tab; (focus (conv => lhs; whnf; arg 1; whnf; arg 2; whnf); try exact rfl); (exact trivial); exact rfl)) | (apply iw; (apply iy (tt := tt); (focus (conv => lhs; whnf; arg 1; whnf; arg 2; whnf); try exact rfl); (exact trivial); exact rfl)) | (apply gq; (apply dz tab; exact rfl; exact rfl; exact rfl; exact rfl; exact rfl; exact rfl; exact rfl; exact rfl)) | (apply je; (apply ik tab; exact rfl; exact rfl; (first | exact (rfl : _ = 1) | exact (rfl : _ = 2) | exact (rfl : _ = 3)); exact rfl)) | (apply lu; (apply kg (tt := tt); (focus (conv => lhs; whnf); try exact rfl); exact rfl; (exact (rfl : _ = 0)); exact rfl)) | (apply ak))) | (apply bq; (first | (apply bg) | (apply ah) | (apply df; exact rfl; (exact rfl)) | (apply dn) | (apply ko (k := 3); exact mixed; decide +kernel; decide +kernel))) | (apply bf) | (apply lq) | (apply p9; (first | (refine og (nu (tt := tt) u6 (hn _) rfl rfl rfl rfl rfl) ?_) | (apply p8; (first | (apply jg; (apply jf (tt := tt); (focus (conv => lhs; whnf); try exact rfl))) | (apply gm; (apply aj tab; exact rfl; exact rfl; exact rfl; (focus (conv => lhs; whnf; arg 1; whnf; arg 2; whnf); try skip); (exact nlb rfl)))); exact rfl; exact rfl) | (apply oz))))
    (change gu _ _ _ _ _ _ _; apply fu; (exact .inr rfl); (focus (repeat' (first | (apply mr; exact rfl; exact rfl; exact rfl; (focus (conv => lhs; whnf; arg 1; whnf; arg 2; whnf); try skip); (exact nlb rfl)) | exact iq))); exact rfl; (exact rfl); exact Nat.le_refl _; (focus (repeat' (first | exact trivial | refine ⟨?_, ?_⟩))); exact hso)
    exact ⟨rfl, rfl⟩
  | some c =>
    have e : ac7 x s = doX x c := by unfold ac7; rw [hc]
    rw [e]
    rw [hc] at ht
    dsimp only [afx] at ht
    obtain ⟨_, k1, k2⟩ := am9 hc
    have hd := av0 x c hx (by omega) (by omega)
    generalize doX x c = D at *
    obtain ⟨Y, R⟩ := D
    dsimp only at *
    refine ny tab Try.func25 rfl (nlb rfl) (by decide) fun hso => oh ?_
    repeat' (first | (apply bn; (first | (apply bv; (apply bu (tt := tt); (focus (conv => lhs; whnf); try exact rfl); exact rfl)) | (apply ai; (apply az (tt := tt); (focus (conv => lhs; whnf); try exact rfl); exact rfl)) | (apply ji; (first | (refine cz (tt := tt) ahd (ht _) rfl rfl rfl rfl rfl ?_) | (refine cz (tt := tt) axz (hd _) rfl rfl rfl rfl rfl ?_))) | (apply dw; (apply di true tab; (focus (conv => lhs; whnf; arg 1; whnf; arg 2; whnf); try exact rfl); (exact trivial); exact rfl)) | (apply fq; (apply aa; (apply aj tab; exact rfl; exact rfl; exact rfl; (focus (conv => lhs; whnf; arg 1; whnf; arg 2; whnf); try skip); (exact nlb rfl)); (intro c h; cases h); exact rfl)) | (apply iw; (apply iy (tt := tt); (focus (conv => lhs; whnf; arg 1; whnf; arg 2; whnf); try exact rfl); (exact trivial); exact rfl)) | (apply gq; (apply dz tab; exact rfl; exact rfl; exact rfl; exact rfl; exact rfl; exact rfl; exact rfl; exact rfl)) | (apply je; (apply ik tab; exact rfl; exact rfl; (first | exact (rfl : _ = 1) | exact (rfl : _ = 2) | exact (rfl : _ = 3)); exact rfl)) | (apply lu; (apply kg (tt := tt); (focus (conv => lhs; whnf); try exact rfl); exact rfl; (exact (rfl : _ = 0)); exact rfl)) | (apply ak))) | (apply bq; (first | (apply bg) | (apply ah) | (apply dm; exact rfl; (exact rfl)) | (apply gz) | (apply dn))) | (apply bf))
    (change gu _ _ _ _ _ _ _; apply fu; (exact .inr rfl); (focus (repeat' (first | (apply mr; exact rfl; exact rfl; exact rfl; (focus (conv => lhs; whnf; arg 1; whnf; arg 2; whnf); try skip); (exact nlb rfl)) | exact iq))); exact rfl; (exact rfl); exact Nat.le_refl _; (focus (repeat' (first | exact trivial | refine ⟨?_, ?_⟩))); exact hso)
    exact ⟨rfl, rfl⟩
abbrev ae7 : List PV := [.sl .ow 9 [], .sl .ow 5 [], .sl .ow 8 []]
set_option maxHeartbeats 4000000 in
theorem aey (l : List ByteArray) (hw : ww (l.map .str) ≤ 1048576) (σ : Sto) : jo Try.prog 10 [.sl .sh 1 (l.map .str)] σ fun r σ' => r = .tup [ix (aaj l).1, .sl .sh 11 ((aaj l).2.map ft)] ∧ σ' = σ := by
  have hsl := asl l
  have hll : l.length ≤ 1048576 := by have := acm (l.map PV.str); rw [List.length_map] at this; omega
  refine ny tab Try.func10 rfl (nlb rfl) (by decide) fun hso => oh ?_
  repeat' (first | (apply bn; (first | (apply bv; (apply bu (tt := tt); (focus (conv => lhs; whnf); try exact rfl); exact rfl)) | (apply ai; (apply qx (tt := tt); exact rfl; exact ltn rfl)) | (apply jr; (apply ni tab; (focus (conv => lhs; whnf; arg 1; whnf; arg 2; whnf); try exact rfl); (exact trivial); exact rfl)) | (apply je; (apply ik tab; exact rfl; exact rfl; (first | exact (rfl : _ = 0) | exact (rfl : _ = 1)); exact rfl)) | (apply ak))) | (apply bq; (first | (apply bg) | (apply ah) | (apply ed))) | (apply bf))
  refine acn (fun j : Nat => [(2, .ptr (σ.length + 0) 0), (4, .ptr (σ.length + 1) 0), (5, .sl .ow 11 ((uh l j).2.map ft)), (14, .sl .sh 1 (l.map .str)), (15, .int .i64 l.length), (16, .int .i64 j)])
    (fun j => σ ++ [.cells ae7, .cells (if j = 0 then ae7 else (ix (uh l j).1).cells)]) (fun j => j ≤ l.length) (fun j => l.length - j) 0 (Nat.zero_le _) ?_ rfl ?_
  · rw [← List.length_map (f := PV.str)]
    (repeat' (first | exact trivial | exact Wk.same _ | refine ⟨?_, ?_⟩))
  intro j hj
  rcases Nat.lt_or_ge j l.length with hlt | hge
  · have c1 : decide ((j : Int) < (l.length : Int)) = true := decide_eq_true (by omega)
    have c1m : decide ((j : Int) < ((l.map PV.str).length : Int)) = true := by rw [List.length_map]; exact c1
    have hmem : l.getD j default ∈ l := uq hlt
    have hsz : (l.getD j default).size ≤ 1048576 := by
      have := aqk (l := l.map PV.str) (List.mem_map.2 ⟨_, hmem, rfl⟩)
      simp only [PV.wt] at this; omega
    have hB := amw l j
    have hsm := ao8 l (Nat.le_of_lt hlt)
    have hok : OkI (uh l j).1 := hB.ok (by omega)
    have hfl := af0 l j
    have ht := alb (l.getD ((j : Nat) : Int).toNat default) (by rw [Int.toNat_natCast]; omega)
    have ha := ao2 (uh l j).1 (l.getD ((j : Nat) : Int).toNat default) (by rw [Int.toNat_natCast]; omega) hok
    have hstep : uh l (j + 1) = stepT j (uh l j) (l.getD ((j : Nat) : Int).toNat default) := by rw [uh, Int.toNat_natCast]
    have hcells : ∃ cs, (if j = 0 then ae7 else (ix (uh l j).1).cells) = cs ∧ ((cs = ae7 ∧ (uh l j).1 = ix0) ∨ cs = (ix (uh l j).1).cells) := by
      by_cases h0 : j = 0
      · subst h0; exact ⟨_, if_pos rfl, .inl ⟨rfl, rfl⟩⟩
      · exact ⟨_, if_neg h0, .inr rfl⟩
    obtain ⟨cs, hcs, hcs2⟩ := hcells
    have hj1 : (if j + 1 = 0 then ae7 else (ix (uh l (j + 1)).1).cells) = (ix (uh l (j + 1)).1).cells := if_neg (by omega)
    rw [hcs]
    have hfin : l.getD ((j : Nat) : Int).toNat default = l.getD j default := by rw [Int.toNat_natCast]
    generalize uh l j = q at *
    obtain ⟨X, F⟩ := q
    dsimp only at *
    cases hc : takeC (l.getD ((j : Nat) : Int).toNat default) with
    | none =>
      have e1 : ac7 X (l.getD ((j : Nat) : Int).toNat default) = (X, refuse 3) := by unfold ac7; rw [hc]
      have e2 : uh l (j + 1) = (X, F) := by rw [hstep]; unfold stepT; rw [hc]
      rw [hc] at ht
      rw [e1] at ha
      dsimp only [afx] at ht ha
      have la := ajd X 0 (by have := hok.last; omega)
      generalize ad8 X 0 = L at la
      generalize decide (0 ≤ uw X 0) = b at la
      rcases hcs2 with ⟨rfl, rfl⟩ | rfl
      all_goals repeat' (first | (apply bn; (first | (apply jq; (first | (apply ru; exact (rfl : _ = some _); exact rfl; exact ltn rfl) | (apply ky; exact (rfl : _ = some _); exact (rfl : _ = PV.bool _); (exact rfl); exact ltn rfl))) | (apply bv; (apply bu (tt := tt); (focus (conv => lhs; whnf); try exact rfl); exact rfl)) | (apply ai; (apply az (tt := tt); (focus (conv => lhs; whnf); try exact rfl); exact rfl)) | (apply ji; (first | (refine cz (tt := tt) ahd (ht _) rfl rfl rfl rfl rfl ?_) | (refine cz (tt := tt) aei (la _) rfl rfl rfl rfl rfl ?_) | (refine cz (tt := tt) ajp (ha _) rfl rfl rfl rfl rfl ?_))) | (apply dw; (apply di true tab; (focus (conv => lhs; whnf; arg 1; whnf; arg 2; whnf); try exact rfl); (first | exact trivial | (simp only [InR]; omega)); exact rfl)) | (apply kr; (apply ku (tt := tt); exact (rfl : _ = PV.bool _); (refine .inr ⟨rfl, ?_⟩); (focus (conv => lhs; whnf); try exact rfl); exact ltn rfl)) | (apply fq; (first | (apply aa; (apply aj tab; exact rfl; exact rfl; exact rfl; (focus (conv => lhs; whnf; arg 1; whnf; arg 2; whnf); try skip); (first | exact trivial | exact nlb rfl)); (intro c h; cases h); exact rfl) | (apply ou tab; (focus (conv => lhs; whnf; arg 1; whnf; arg 2; whnf); try skip); (exact trivial); exact rfl))) | (apply j5; (refine lw (tI := 3) _ tab rfl (by (focus (conv => lhs; whnf); try exact rfl)) (by (focus (conv => lhs; whnf); try exact rfl)) rfl (by (omega)) (by (omega)) (by (focus (conv => lhs; whnf); try exact rfl)) (ltn rfl) ?_)) | (apply cu; (apply aa; (apply af tab; exact rfl; (focus (conv => lhs; whnf); try exact rfl); exact rfl; (exact (rfl : _ = 1))); (intro c h; cases h); exact rfl)) | (apply iw; (apply iy (tt := tt); (focus (conv => lhs; whnf; arg 1; whnf; arg 2; whnf); try exact rfl); (exact trivial); exact rfl)) | (apply gq; (apply dz tab; exact rfl; exact rfl; exact rfl; exact rfl; exact rfl; exact rfl; exact rfl; exact rfl)) | (apply je; (apply ik tab; exact rfl; exact rfl; (first | exact (rfl : _ = 2) | exact (rfl : _ = 3) | exact (rfl : _ = 4) | exact (rfl : _ = 5)); exact rfl)) | (apply ak))) | (apply bq; (first | (apply bg) | (apply ah) | (apply df; exact rfl; (assumption)) | (apply dm; exact rfl; (exact rfl)) | (apply gz) | (apply ed))) | (apply bf) | (apply ng))
      all_goals refine ⟨j + 1, by omega, by omega, ?_, ?_⟩
      · rw [e2]
        (repeat' (first | exact trivial | exact Wk.same _ | refine ⟨?_, ?_⟩))
      · rw [hj1, e2]
        exact uo 2 rfl (by simp) (um hso (by simp [Ent.lt, o6, PV.lt, PV.cells, ix, ix0])) (vw (by simp [PV.lt, ix, ix0]))
      · rw [e2]
        (repeat' (first | exact trivial | exact Wk.same _ | refine ⟨?_, ?_⟩))
      · rw [hj1, e2]
        exact uo 2 rfl (by simp) (um hso (by simp [Ent.lt, o6, PV.lt, PV.cells, ix])) (vw (by simp [PV.lt, ix]))
    | some c =>
      have e1 : ac7 X (l.getD ((j : Nat) : Int).toNat default) = doX X c := by unfold ac7; rw [hc]
      have e2 : uh l (j + 1) = ((doX X c).1, if afd X c then F ++ [as3 j c (doX X c).2] else F) := by rw [hstep]; unfold stepT; rw [hc]
      rw [hc] at ht
      rw [e1] at ha
      dsimp only [afx] at ht
      have la := ajd X c.client (by have := hok.last; omega)
      have hr : afd X c = (decide (0 < c.client) && (!decide (0 ≤ uw X c.client) || decide ((ad8 X c.client).seq < c.seq))) := rfl
      generalize doX X c = D at *
      generalize afd X c = rr at *
      generalize ad8 X c.client = L at *
      generalize decide (0 ≤ uw X c.client) = b at *
      obtain ⟨Y, R⟩ := D
      dsimp only at ha e2
      by_cases g1 : 0 < c.client
      · have g1' : decide (0 < c.client) = true := decide_eq_true g1
        rw [g1'] at hr
        cases b with
        | false =>
          have hr : rr = true := by rw [hr]; rfl
          rw [hr, if_pos rfl] at e2
          rcases hcs2 with ⟨rfl, rfl⟩ | rfl
          all_goals repeat' (first | (apply bn; (first | (apply jq; (first | (apply jc; exact (rfl : _ = some _); exact (rfl : _ = PV.bool _); (first | exact rfl | assumption)) | (apply ky; exact (rfl : _ = some _); exact (rfl : _ = PV.bool _); (exact rfl); exact ltn rfl))) | (apply bv; (first | (apply qh (d := 58) (.inr rfl); (focus (conv => lhs; whnf); try exact rfl); exact rfl; exact ltn rfl) | (apply bu (tt := tt); (focus (conv => lhs; whnf); try exact rfl); exact rfl))) | (apply ai; (first | (apply qh (.inl rfl); (focus (conv => lhs; whnf); try exact rfl); exact rfl; exact ltn rfl) | (apply az (tt := tt); (focus (conv => lhs; whnf); try exact rfl); exact rfl))) | (apply ji; (first | (refine cz (tt := tt) ahd (ht _) rfl rfl rfl rfl rfl ?_) | (refine cz (tt := tt) aei (la _) rfl rfl rfl rfl rfl ?_) | (refine cz (tt := tt) ajp (ha _) rfl rfl rfl rfl rfl ?_))) | (apply dw; (apply di true tab; (focus (conv => lhs; whnf; arg 1; whnf; arg 2; whnf); try exact rfl); (first | exact trivial | (simp only [InR]; omega)); exact rfl)) | (apply kr; (apply ku (tt := tt); exact (rfl : _ = PV.bool _); (first | refine .inl ⟨rfl, ?_⟩ | refine .inl ⟨by assumption, ?_⟩); (focus (conv => lhs; whnf); try exact rfl); exact ltn rfl)) | (apply fq; (first | (apply aa; (apply aj tab; exact rfl; exact rfl; exact rfl; (focus (conv => lhs; whnf; arg 1; whnf; arg 2; whnf); try skip); (first | exact trivial | exact nlb rfl)); (intro c h; cases h); exact rfl) | (apply ou tab; (focus (conv => lhs; whnf; arg 1; whnf; arg 2; whnf); try skip); (exact trivial); exact rfl))) | (apply jr; (apply qf tab; (focus (conv => lhs; whnf); try exact rfl); exact rfl; exact rfl; exact rfl; exact rfl; exact rfl; (focus (conv => lhs; whnf); try exact rfl); exact rfl; (simp only [List.length_map, List.length_append, List.length_cons, List.length_nil, List.length_take]; omega); (exact rfl); exact rfl)) | (apply j5; (refine lw (tI := 3) _ tab rfl (by (focus (conv => lhs; whnf); try exact rfl)) (by (focus (conv => lhs; whnf); try exact rfl)) rfl (by (omega)) (by (omega)) (by (focus (conv => lhs; whnf); try exact rfl)) (ltn rfl) ?_)) | (apply cu; (apply aa; (apply af tab; exact rfl; (focus (conv => lhs; whnf); try exact rfl); exact rfl; (first | exact (rfl : _ = 0) | exact (rfl : _ = 1) | exact (rfl : _ = 2) | exact (rfl : _ = 3))); (intro c h; cases h); exact rfl)) | (apply qy; (apply pu (tt := tt) true; (focus (conv => lhs; whnf; arg 1; whnf; arg 2; whnf); try exact rfl); (exact trivial); exact rfl)) | (apply iw; (apply iy (tt := tt); (focus (conv => lhs; whnf; arg 1; whnf; arg 2; whnf); try exact rfl); (exact trivial); exact rfl)) | (apply gq; (apply dz tab; exact rfl; exact rfl; exact rfl; exact rfl; exact rfl; exact rfl; exact rfl; exact rfl)) | (apply pq; (apply aa; (apply gy tab; exact rfl; (focus (conv => lhs; whnf; arg 1; whnf; arg 2; whnf); try skip)); (intro c h; cases h); exact rfl)) | (apply mi; (apply mq .ow tab; exact rfl; (focus ((repeat (apply mh; (focus (conv => lhs; whnf); try exact rfl))); exact nk)); exact rfl; exact rfl; exact rfl; exact rfl; exact rfl; exact rfl)) | (apply je; (apply ik tab; exact rfl; exact rfl; (first | exact (rfl : _ = 2) | exact (rfl : _ = 3) | exact (rfl : _ = 4) | exact (rfl : _ = 5)); exact rfl)) | (apply ak))) | (apply bq; (first | (apply bg) | (apply ah) | (apply df; exact rfl; (first | exact rfl | assumption)) | (apply gz) | (apply ed))) | (apply bf) | (apply ng))
          all_goals refine ⟨j + 1, by omega, by omega, ?_, ?_⟩
          · rw [e2, List.map_append]
            (repeat' (first | exact trivial | exact Wk.same _ | refine ⟨?_, ?_⟩))
          · rw [hj1, e2]
            exact uo 2 rfl (by simp) (um hso (by simp [Ent.lt, o6, PV.lt, PV.cells, ix, ix0])) (vw (by simp [PV.lt, ix, ix0]))
          · rw [e2, List.map_append]
            (repeat' (first | exact trivial | exact Wk.same _ | refine ⟨?_, ?_⟩))
          · rw [hj1, e2]
            exact uo 2 rfl (by simp) (um hso (by simp [Ent.lt, o6, PV.lt, PV.cells, ix])) (vw (by simp [PV.lt, ix]))
        | true =>
          by_cases g3 : L.seq < c.seq
          · have g3' : decide (L.seq < c.seq) = true := decide_eq_true g3
            have hr : rr = true := by rw [hr, g3']; rfl
            rw [hr, if_pos rfl] at e2
            rcases hcs2 with ⟨rfl, rfl⟩ | rfl
            all_goals repeat' (first | (apply bn; (first | (apply jq; (apply jc; exact (rfl : _ = some _); exact (rfl : _ = PV.bool _); (first | exact rfl | assumption))) | (apply bv; (first | (apply qh (d := 58) (.inr rfl); (focus (conv => lhs; whnf); try exact rfl); exact rfl; exact ltn rfl) | (apply bu (tt := tt); (focus (conv => lhs; whnf); try exact rfl); exact rfl))) | (apply ai; (first | (apply qh (.inl rfl); (focus (conv => lhs; whnf); try exact rfl); exact rfl; exact ltn rfl) | (apply az (tt := tt); (focus (conv => lhs; whnf); try exact rfl); exact rfl))) | (apply ji; (first | (refine cz (tt := tt) ahd (ht _) rfl rfl rfl rfl rfl ?_) | (refine cz (tt := tt) aei (la _) rfl rfl rfl rfl rfl ?_) | (refine cz (tt := tt) ajp (ha _) rfl rfl rfl rfl rfl ?_))) | (apply dw; (apply di true tab; (focus (conv => lhs; whnf; arg 1; whnf; arg 2; whnf); try exact rfl); (first | exact trivial | (simp only [InR]; omega)); exact rfl)) | (apply kr; (apply ku (tt := tt); exact (rfl : _ = PV.bool _); (first | refine .inl ⟨rfl, ?_⟩ | refine .inr ⟨rfl, ?_⟩ | refine .inl ⟨by assumption, ?_⟩); (focus (conv => lhs; whnf); try exact rfl); exact ltn rfl)) | (apply fq; (first | (apply aa; (apply aj tab; exact rfl; exact rfl; exact rfl; (focus (conv => lhs; whnf; arg 1; whnf; arg 2; whnf); try skip); (first | exact trivial | exact nlb rfl)); (intro c h; cases h); exact rfl) | (apply ou tab; (focus (conv => lhs; whnf; arg 1; whnf; arg 2; whnf); try skip); (exact trivial); exact rfl))) | (apply jr; (apply qf tab; (focus (conv => lhs; whnf); try exact rfl); exact rfl; exact rfl; exact rfl; exact rfl; exact rfl; (focus (conv => lhs; whnf); try exact rfl); exact rfl; (simp only [List.length_map, List.length_append, List.length_cons, List.length_nil, List.length_take]; omega); (exact rfl); exact rfl)) | (apply j5; (refine lw (tI := 3) _ tab rfl (by (focus (conv => lhs; whnf); try exact rfl)) (by (focus (conv => lhs; whnf); try exact rfl)) rfl (by (omega)) (by (omega)) (by (focus (conv => lhs; whnf); try exact rfl)) (ltn rfl) ?_)) | (apply cu; (apply aa; (apply af tab; exact rfl; (focus (conv => lhs; whnf); try exact rfl); exact rfl; (first | exact (rfl : _ = 0) | exact (rfl : _ = 1) | exact (rfl : _ = 2) | exact (rfl : _ = 3))); (intro c h; cases h); exact rfl)) | (apply qy; (apply pu (tt := tt) true; (focus (conv => lhs; whnf; arg 1; whnf; arg 2; whnf); try exact rfl); (exact trivial); exact rfl)) | (apply iw; (apply iy (tt := tt); (focus (conv => lhs; whnf; arg 1; whnf; arg 2; whnf); try exact rfl); (exact trivial); exact rfl)) | (apply gq; (apply dz tab; exact rfl; exact rfl; exact rfl; exact rfl; exact rfl; exact rfl; exact rfl; exact rfl)) | (apply pq; (apply aa; (apply gy tab; exact rfl; (focus (conv => lhs; whnf; arg 1; whnf; arg 2; whnf); try skip)); (intro c h; cases h); exact rfl)) | (apply mi; (apply mq .ow tab; exact rfl; (focus ((repeat (apply mh; (focus (conv => lhs; whnf); try exact rfl))); exact nk)); exact rfl; exact rfl; exact rfl; exact rfl; exact rfl; exact rfl)) | (apply je; (apply ik tab; exact rfl; exact rfl; (first | exact (rfl : _ = 2) | exact (rfl : _ = 3) | exact (rfl : _ = 4) | exact (rfl : _ = 5)); exact rfl)) | (apply ak))) | (apply bq; (first | (apply bg) | (apply ah) | (apply df; exact rfl; (assumption)) | (apply gz) | (apply ed))) | (apply bf) | (apply ng))
            all_goals refine ⟨j + 1, by omega, by omega, ?_, ?_⟩
            · rw [e2, List.map_append]
              (repeat' (first | exact trivial | exact Wk.same _ | refine ⟨?_, ?_⟩))
            · rw [hj1, e2]
              exact uo 2 rfl (by simp) (um hso (by simp [Ent.lt, o6, PV.lt, PV.cells, ix, ix0])) (vw (by simp [PV.lt, ix, ix0]))
            · rw [e2, List.map_append]
              (repeat' (first | exact trivial | exact Wk.same _ | refine ⟨?_, ?_⟩))
            · rw [hj1, e2]
              exact uo 2 rfl (by simp) (um hso (by simp [Ent.lt, o6, PV.lt, PV.cells, ix])) (vw (by simp [PV.lt, ix]))
          · have g3' : decide (L.seq < c.seq) = false := decide_eq_false g3
            have hr : rr = false := by rw [hr, g3']; rfl
            rw [hr, if_neg (by decide)] at e2
            rcases hcs2 with ⟨rfl, rfl⟩ | rfl
            all_goals repeat' (first | (apply bn; (first | (apply jq; (apply jc; exact (rfl : _ = some _); exact (rfl : _ = PV.bool _); (first | exact rfl | assumption))) | (apply bv; (apply bu (tt := tt); (focus (conv => lhs; whnf); try exact rfl); exact rfl)) | (apply ai; (apply az (tt := tt); (focus (conv => lhs; whnf); try exact rfl); exact rfl)) | (apply ji; (first | (refine cz (tt := tt) ahd (ht _) rfl rfl rfl rfl rfl ?_) | (refine cz (tt := tt) aei (la _) rfl rfl rfl rfl rfl ?_) | (refine cz (tt := tt) ajp (ha _) rfl rfl rfl rfl rfl ?_))) | (apply dw; (apply di true tab; (focus (conv => lhs; whnf; arg 1; whnf; arg 2; whnf); try exact rfl); (first | exact trivial | (simp only [InR]; omega)); exact rfl)) | (apply kr; (apply ku (tt := tt); exact (rfl : _ = PV.bool _); (first | refine .inl ⟨rfl, ?_⟩ | refine .inr ⟨rfl, ?_⟩ | refine .inl ⟨by assumption, ?_⟩); (focus (conv => lhs; whnf); try exact rfl); exact ltn rfl)) | (apply fq; (first | (apply aa; (apply aj tab; exact rfl; exact rfl; exact rfl; (focus (conv => lhs; whnf; arg 1; whnf; arg 2; whnf); try skip); (first | exact trivial | exact nlb rfl)); (intro c h; cases h); exact rfl) | (apply ou tab; (focus (conv => lhs; whnf; arg 1; whnf; arg 2; whnf); try skip); (exact trivial); exact rfl))) | (apply j5; (refine lw (tI := 3) _ tab rfl (by (focus (conv => lhs; whnf); try exact rfl)) (by (focus (conv => lhs; whnf); try exact rfl)) rfl (by (omega)) (by (omega)) (by (focus (conv => lhs; whnf); try exact rfl)) (ltn rfl) ?_)) | (apply cu; (apply aa; (apply af tab; exact rfl; (focus (conv => lhs; whnf); try exact rfl); exact rfl; (first | exact (rfl : _ = 1) | exact (rfl : _ = 2))); (intro c h; cases h); exact rfl)) | (apply qy; (apply pu (tt := tt) true; (focus (conv => lhs; whnf; arg 1; whnf; arg 2; whnf); try exact rfl); (exact trivial); exact rfl)) | (apply iw; (apply iy (tt := tt); (focus (conv => lhs; whnf; arg 1; whnf; arg 2; whnf); try exact rfl); (exact trivial); exact rfl)) | (apply gq; (apply dz tab; exact rfl; exact rfl; exact rfl; exact rfl; exact rfl; exact rfl; exact rfl; exact rfl)) | (apply je; (apply ik tab; exact rfl; exact rfl; (first | exact (rfl : _ = 2) | exact (rfl : _ = 3) | exact (rfl : _ = 4) | exact (rfl : _ = 5)); exact rfl)) | (apply ak))) | (apply bq; (first | (apply bg) | (apply ah) | (apply df; exact rfl; (assumption)) | (apply dm; exact rfl; (assumption)) | (apply gz) | (apply ed))) | (apply bf) | (apply ng))
            all_goals refine ⟨j + 1, by omega, by omega, ?_, ?_⟩
            · rw [e2]
              (repeat' (first | exact trivial | exact Wk.same _ | refine ⟨?_, ?_⟩))
            · rw [hj1, e2]
              exact uo 2 rfl (by simp) (um hso (by simp [Ent.lt, o6, PV.lt, PV.cells, ix, ix0])) (vw (by simp [PV.lt, ix, ix0]))
            · rw [e2]
              (repeat' (first | exact trivial | exact Wk.same _ | refine ⟨?_, ?_⟩))
            · rw [hj1, e2]
              exact uo 2 rfl (by simp) (um hso (by simp [Ent.lt, o6, PV.lt, PV.cells, ix])) (vw (by simp [PV.lt, ix]))
      · have g1' : decide (0 < c.client) = false := decide_eq_false g1
        have hr : rr = false := by rw [hr, g1']; rfl
        rw [hr, if_neg (by decide)] at e2
        rcases hcs2 with ⟨rfl, rfl⟩ | rfl
        all_goals repeat' (first | (apply bn; (first | (apply jq; (first | (apply jc; exact (rfl : _ = some _); exact (rfl : _ = PV.bool _); (exact rfl)) | (apply ru; exact (rfl : _ = some _); exact rfl; exact ltn rfl) | (apply ky; exact (rfl : _ = some _); exact (rfl : _ = PV.bool _); (assumption); exact ltn rfl))) | (apply bv; (apply bu (tt := tt); (focus (conv => lhs; whnf); try exact rfl); exact rfl)) | (apply ai; (apply az (tt := tt); (focus (conv => lhs; whnf); try exact rfl); exact rfl)) | (apply ji; (first | (refine cz (tt := tt) ahd (ht _) rfl rfl rfl rfl rfl ?_) | (refine cz (tt := tt) aei (la _) rfl rfl rfl rfl rfl ?_) | (refine cz (tt := tt) ajp (ha _) rfl rfl rfl rfl rfl ?_))) | (apply dw; (apply di true tab; (focus (conv => lhs; whnf; arg 1; whnf; arg 2; whnf); try exact rfl); (first | exact trivial | (simp only [InR]; omega)); exact rfl)) | (apply kr; (apply ku (tt := tt); exact (rfl : _ = PV.bool _); (first | refine .inl ⟨rfl, ?_⟩ | refine .inr ⟨by assumption, ?_⟩); (focus (conv => lhs; whnf); try exact rfl); exact ltn rfl)) | (apply fq; (first | (apply aa; (apply aj tab; exact rfl; exact rfl; exact rfl; (focus (conv => lhs; whnf; arg 1; whnf; arg 2; whnf); try skip); (first | exact trivial | exact nlb rfl)); (intro c h; cases h); exact rfl) | (apply ou tab; (focus (conv => lhs; whnf; arg 1; whnf; arg 2; whnf); try skip); (exact trivial); exact rfl))) | (apply j5; (refine lw (tI := 3) _ tab rfl (by (focus (conv => lhs; whnf); try exact rfl)) (by (focus (conv => lhs; whnf); try exact rfl)) rfl (by (omega)) (by (omega)) (by (focus (conv => lhs; whnf); try exact rfl)) (ltn rfl) ?_)) | (apply cu; (apply aa; (apply af tab; exact rfl; (focus (conv => lhs; whnf); try exact rfl); exact rfl; (exact (rfl : _ = 1))); (intro c h; cases h); exact rfl)) | (apply iw; (apply iy (tt := tt); (focus (conv => lhs; whnf; arg 1; whnf; arg 2; whnf); try exact rfl); (exact trivial); exact rfl)) | (apply gq; (apply dz tab; exact rfl; exact rfl; exact rfl; exact rfl; exact rfl; exact rfl; exact rfl; exact rfl)) | (apply je; (apply ik tab; exact rfl; exact rfl; (first | exact (rfl : _ = 2) | exact (rfl : _ = 3) | exact (rfl : _ = 4) | exact (rfl : _ = 5)); exact rfl)) | (apply ak))) | (apply bq; (first | (apply bg) | (apply ah) | (apply df; exact rfl; (assumption)) | (apply dm; exact rfl; (exact rfl)) | (apply gz) | (apply ed))) | (apply bf) | (apply ng))
        all_goals refine ⟨j + 1, by omega, by omega, ?_, ?_⟩
        · rw [e2]
          (repeat' (first | exact trivial | exact Wk.same _ | refine ⟨?_, ?_⟩))
        · rw [hj1, e2]
          exact uo 2 rfl (by simp) (um hso (by simp [Ent.lt, o6, PV.lt, PV.cells, ix, ix0])) (vw (by simp [PV.lt, ix, ix0]))
        · rw [e2]
          (repeat' (first | exact trivial | exact Wk.same _ | refine ⟨?_, ?_⟩))
        · rw [hj1, e2]
          exact uo 2 rfl (by simp) (um hso (by simp [Ent.lt, o6, PV.lt, PV.cells, ix])) (vw (by simp [PV.lt, ix]))
  · have c1 : decide ((j : Int) < (l.length : Int)) = false := decide_eq_false (by omega)
    have c1m : decide ((j : Int) < ((l.map PV.str).length : Int)) = false := by rw [List.length_map]; exact c1
    have hjj : j = l.length := by omega
    have hR : uh l j = aaj l := by rw [hjj]; rfl
    rw [hR]
    have hcs : (if j = 0 then ae7 else (ix (aaj l).1).cells) = ae7 ∧ (aaj l).1 = ix0 ∨ (if j = 0 then ae7 else (ix (aaj l).1).cells) = (ix (aaj l).1).cells := by
      by_cases h0 : j = 0
      · refine .inl ⟨if_pos h0, ?_⟩
        rw [← hR, h0]; rfl
      · exact .inr (if_neg h0)
    generalize (if j = 0 then ae7 else (ix (aaj l).1).cells) = cs at hcs ⊢
    generalize aaj l = q at *
    obtain ⟨X, F⟩ := q
    dsimp only at *
    rcases hcs with ⟨rfl, rfl⟩ | rfl
    · repeat' (first | (apply bn; (first | (apply bv; (apply bu (tt := tt); (focus (conv => lhs; whnf); try exact rfl); exact rfl)) | (apply ai; (apply az (tt := tt); (focus (conv => lhs; whnf); try exact rfl); exact rfl)) | (apply dw; (apply di true tab; (focus (conv => lhs; whnf; arg 1; whnf; arg 2; whnf); try exact rfl); (exact trivial); exact rfl)) | (apply fq; (apply aa; (apply aj tab; exact rfl; exact rfl; exact rfl; (focus (conv => lhs; whnf; arg 1; whnf; arg 2; whnf); try skip); (exact nlb rfl)); (intro c h; cases h); exact rfl)) | (apply gq; (apply dz tab; exact rfl; exact rfl; exact rfl; exact rfl; exact rfl; exact rfl; exact rfl; exact rfl)) | (apply ak))) | (apply bq; (first | (apply bg) | (apply ah) | (apply dm; exact rfl; (assumption)) | (apply dn) | (apply oo))) | (apply bf) | (apply o9) | (apply pg))
      (change gu _ _ _ _ _ _ _; apply fu; (exact .inr rfl); (focus (repeat' (first | (apply lc; (focus (conv => lhs; whnf); try exact rfl); (exact Wk.same _)) | (apply mr; exact rfl; exact rfl; exact rfl; (focus (conv => lhs; whnf; arg 1; whnf; arg 2; whnf); try skip); (exact nlb rfl)) | exact iq))); exact rfl; (exact rfl); exact Nat.le_refl _; (focus (repeat' (first | exact trivial | refine ⟨?_, ?_⟩))); exact hso)
      exact ⟨rfl, rfl⟩
    · repeat' (first | (apply bn; (first | (apply bv; (apply bu (tt := tt); (focus (conv => lhs; whnf); try exact rfl); exact rfl)) | (apply ai; (apply az (tt := tt); (focus (conv => lhs; whnf); try exact rfl); exact rfl)) | (apply dw; (apply di true tab; (focus (conv => lhs; whnf; arg 1; whnf; arg 2; whnf); try exact rfl); (exact trivial); exact rfl)) | (apply fq; (apply aa; (apply aj tab; exact rfl; exact rfl; exact rfl; (focus (conv => lhs; whnf; arg 1; whnf; arg 2; whnf); try skip); (exact nlb rfl)); (intro c h; cases h); exact rfl)) | (apply gq; (apply dz tab; exact rfl; exact rfl; exact rfl; exact rfl; exact rfl; exact rfl; exact rfl; exact rfl)) | (apply ak))) | (apply bq; (first | (apply bg) | (apply ah) | (apply dm; exact rfl; (assumption)) | (apply dn) | (apply oo))) | (apply bf) | (apply o9) | (apply pg))
      (change gu _ _ _ _ _ _ _; apply fu; (exact .inr rfl); (focus (repeat' (first | (apply lc; (focus (conv => lhs; whnf); try exact rfl); (exact Wk.same _)) | (apply mr; exact rfl; exact rfl; exact rfl; (focus (conv => lhs; whnf; arg 1; whnf; arg 2; whnf); try skip); (exact nlb rfl)) | exact iq))); exact rfl; (exact rfl); exact Nat.le_refl _; (focus (repeat' (first | exact trivial | refine ⟨?_, ?_⟩))); exact hso)
      exact ⟨rfl, rfl⟩
end Go.Proofs.Ytbpjaiemlkcccaa.Pv
end
section
/- The document's example of a log; rows of facts compared. -/
namespace Go.Proofs.Ytbpjaiemlkcccaa.Pv
open Go
set_option maxRecDepth 100000
abbrev c18 : Cm := ⟨5, 1, 3, ⟨#[97]⟩, 0, 0, 0, 0, 0, 0, 0, []⟩
theorem am0 : CmOK c18 := ⟨by decide, by decide, by decide, by decide⟩
theorem akg : vk c18 = true := by decide +kernel
theorem aw6 : ∃ r, (aaj [cmB c18, cmB c18]).2 = [⟨1, 1, 3, 5, ⟨#[97]⟩, r⟩] := by
  have e := ao3 am0 akg
  have r1 : afd ix0 c18 = true := by decide +kernel
  have r2 : afd (doX ix0 c18).1 c18 = false := by decide +kernel
  refine ⟨(doX ix0 c18).2, ?_⟩
  show (stepT 1 (stepT 0 (ix0, []) (cmB c18)) (cmB c18)).2 = _
  unfold stepT
  rw [e]
  dsimp only
  rw [r1, r2]
  rfl
theorem ael (σ : Sto) : jo Try.prog 9 [] σ fun x σ' => x = .bool true ∧ σ' = σ := by
  refine ny tab Try.func9 rfl (nlb rfl) (by decide) fun hso => oh ?_
  have hb := alg c18 am0
  rw [if_pos akg] at hb
  have hz := ag1 am0 akg c18.places.length (Nat.le_refl _)
  have hz' : (cmB c18).size ≤ 200 := Nat.le_trans hz.2 (by decide)
  have hr := aey [cmB c18, cmB c18] (by simp only [List.map_cons, List.map_nil, ww, PV.wt]; omega)
  obtain ⟨r, hF⟩ := aw6
  rw [hF] at hr
  generalize (aaj [cmB c18, cmB c18]).1 = X at hr
  repeat' (first | (apply bn; (first | (apply jq; (apply jc; exact (rfl : _ = some _); exact (rfl : _ = PV.bool _); (exact rfl))) | (apply bv; (apply bu (tt := tt); (focus (conv => lhs; whnf); try exact rfl); exact rfl)) | (apply ai; (apply az (tt := tt); (focus (conv => lhs; whnf); try exact rfl); exact rfl)) | (apply ji; (first | (refine cz (tt := tt) ayy (hb _) rfl rfl rfl rfl rfl ?_) | (refine cz (tt := tt) alk (hr _) rfl rfl rfl rfl rfl ?_))) | (apply dw; (apply di true tab; (focus (conv => lhs; whnf; arg 1; whnf; arg 2; whnf); try exact rfl); (exact trivial); exact rfl)) | (apply kr; (apply ku (tt := tt); exact (rfl : _ = PV.bool _); (refine .inl ⟨rfl, ?_⟩); (focus (conv => lhs; whnf); try exact rfl); exact ltn rfl)) | (apply fq; (apply ou tab; (focus (conv => lhs; whnf; arg 1; whnf; arg 2; whnf); try skip); (exact trivial); exact rfl)) | (apply jr; (apply ni tab; (focus (conv => lhs; whnf; arg 1; whnf; arg 2; whnf); try exact rfl); (exact trivial); exact rfl)) | (apply j5; (refine lw (tI := 3) _ tab rfl (by (focus (conv => lhs; whnf); try exact rfl)) (by (focus (conv => lhs; whnf); try exact rfl)) rfl (by (omega)) (by (simp only [List.length_map, List.length_cons, List.length_append, List.length_nil]; omega)) (by (focus (conv => lhs; whnf); try exact rfl)) (ltn rfl) ?_)) | (apply cu; (apply aa; (apply bz tab; exact rfl; (focus (conv => lhs; whnf); try exact rfl); exact rfl; exact rfl; (focus (conv => lhs; whnf); try exact rfl)); (intro c h; cases h); exact rfl)) | (apply iw; (apply iy (tt := tt); (focus (conv => lhs; whnf; arg 1; whnf; arg 2; whnf); try exact rfl); (exact trivial); exact rfl)) | (apply gq; (apply dz tab; exact rfl; exact rfl; exact rfl; exact rfl; exact rfl; exact rfl; exact rfl; exact rfl)) | (apply pq; (apply aa; (apply gy tab; exact rfl; (focus (conv => lhs; whnf; arg 1; whnf; arg 2; whnf); try skip)); (intro c h; cases h); exact rfl)) | (apply mi; (apply mq .ow tab; exact rfl; (focus ((repeat (apply mh; (focus (conv => lhs; whnf); try exact rfl))); exact nk)); exact rfl; exact rfl; exact rfl; exact rfl; exact rfl; exact rfl)) | (apply je; (apply ik tab; exact rfl; exact rfl; (exact (rfl : _ = 0)); exact rfl)) | (apply ak))) | (apply bq; (first | (apply bg) | (apply ah) | (apply dn))) | (apply bf))
  (change gu _ _ _ _ _ _ _; apply fu; (exact .inr rfl); (focus (repeat' (first | (apply lc; (focus (conv => lhs; whnf); try exact rfl); (exact Wk.same _)) | exact iq))); exact rfl; (exact rfl); exact Nat.le_refl _; (focus (repeat' (first | exact trivial | refine ⟨?_, ?_⟩))); exact hso)
  exact ⟨rfl, rfl⟩
end Go.Proofs.Ytbpjaiemlkcccaa.Pv
end
