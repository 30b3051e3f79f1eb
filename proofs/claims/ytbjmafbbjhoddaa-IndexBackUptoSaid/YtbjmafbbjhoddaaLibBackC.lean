/- A command is taken from its bytes as it was. -/
import Derived.Test.YtbjmafbbjhoddaaLibTakeE
import Derived.Test.YtbjmafbbjhoddaaLibBytR
namespace Go.Proofs.Ytbjmafbbjhoddaa.Pv
open Go
set_option linter.unusedVariables false
set_option linter.unusedSimpArgs false
set_option maxRecDepth 100000

def parseC (s : ByteArray) : Option (Cm × ByteArray) :=
  (rdN s 9).bind fun k => (rdN k.2 16).bind fun cl => (rdN cl.2 1073741824).bind fun sq => (rdT sq.2).bind fun nm =>
  (rdN nm.2 1048576).bind fun vo => (rdN vo.2 1048576).bind fun off => (rdN off.2 1048576).bind fun n => (rdN n.2 4294967295).bind fun su =>
  (rdN su.2 1048576).bind fun re => (rdN re.2 1048576).bind fun ma => (rdN ma.2 1048576).bind fun idx => (rdN idx.2 14).bind fun m =>
  (rdP m.1 m.2 []).bind fun ps => some (⟨k.1, cl.1, sq.1, nm.1, vo.1, off.1, n.1, su.1, re.1, ma.1, idx.1, ps.1⟩, ps.2)
theorem takeC_parse (s : ByteArray) : takeC s = (parseC s).bind fun q => fin15 q.1 q.2 := by
  unfold takeC parseC
  simp only [Option.bind_assoc, Option.bind_some]

theorem rdN_ext {s r : ByteArray} {top v : Nat} (h : rdN s top = some (v, r)) (t : ByteArray) : rdN (s ++ t) top = some (v, r ++ t) := by
  unfold rdN at h ⊢
  split at h
  · rename_i h1
    cases h
    have e := takeN_ext t h1.1
    have h2 : okN (s ++ t) top := by unfold okN; rw [e]; exact ⟨rfl, h1.2⟩
    rw [if_pos h2, e]
  · cases h
theorem rdT_ext {s r v : ByteArray} (h : rdT s = some (v, r)) (t : ByteArray) : rdT (s ++ t) = some (v, r ++ t) := by
  unfold rdT at h ⊢
  split at h
  · rename_i h1
    cases h
    have e := takeT_ext (m := 16) t h1
    rw [e, if_pos rfl]
  · cases h
theorem rdP_ext : ∀ {n : Nat} {s r : ByteArray} {acc l : List (Int × Int)}, rdP n s acc = some (l, r) → ∀ t, rdP n (s ++ t) acc = some (l, r ++ t)
  | 0, s, r, acc, l, h, t => by simp only [rdP, Option.some.injEq, Prod.mk.injEq] at h ⊢; obtain ⟨rfl, rfl⟩ := h; exact ⟨rfl, rfl⟩
  | n + 1, s, r, acc, l, h, t => by
    simp only [rdP, Option.bind_eq_some_iff] at h
    obtain ⟨⟨a, r1⟩, h1, ⟨b, r2⟩, h2, h3⟩ := h
    rw [rdP, rdN_ext h1 t, Option.bind_some, rdN_ext h2 t, Option.bind_some]
    exact rdP_ext h3 t
theorem parseC_ext {s r : ByteArray} {c : Cm} (h : parseC s = some (c, r)) (t : ByteArray) : parseC (s ++ t) = some (c, r ++ t) := by
  unfold parseC at h ⊢
  simp only [Option.bind_eq_some_iff] at h
  obtain ⟨⟨k, r1⟩, h1, ⟨cl, r2⟩, h2, ⟨sq, r3⟩, h3, ⟨nm, r4⟩, h4, ⟨vo, r5⟩, h5, ⟨off, r6⟩, h6, ⟨n, r7⟩, h7, ⟨su, r8⟩, h8, ⟨re, r9⟩, h9, ⟨ma, r10⟩, h10, ⟨idx, r11⟩, h11, ⟨m, r12⟩, h12, ⟨ps, r13⟩, h13, h14⟩ := h
  cases h14
  rw [rdN_ext h1 t, Option.bind_some, rdN_ext h2 t, Option.bind_some, rdN_ext h3 t, Option.bind_some, rdT_ext h4 t, Option.bind_some, rdN_ext h5 t, Option.bind_some, rdN_ext h6 t, Option.bind_some, rdN_ext h7 t, Option.bind_some, rdN_ext h8 t, Option.bind_some,
    rdN_ext h9 t, Option.bind_some, rdN_ext h10 t, Option.bind_some, rdN_ext h11 t, Option.bind_some, rdN_ext h12 t, Option.bind_some, rdP_ext h13 t, Option.bind_some]

theorem rdN_num {z : Int} {top : Nat} (h0 : 0 ≤ z) (h : z ≤ top) (ht : top < 18446744073709551616) (r : ByteArray) : rdN (numB z.toNat ++ r) top = some (z.toNat, r) := by
  have e := takeN_num (v := z.toNat) (by omega) r
  unfold rdN
  have h2 : okN (numB z.toNat ++ r) top := by unfold okN; rw [e]; exact ⟨rfl, by show z.toNat ≤ top; omega⟩
  rw [if_pos h2, e]
theorem rdT_text {t : ByteArray} (h : t.size ≤ 16) (r : ByteArray) : rdT (textB t ++ r) = some (t, r) := by
  have e := takeT_text (m := 16) h (by decide) r
  unfold rdT
  rw [e, if_pos rfl]

def plB : List (Int × Int) → ByteArray
  | [] => ⟨#[]⟩
  | p :: r => numB p.1.toNat ++ (numB p.2.toNat ++ plB r)
theorem foldl_plB : ∀ (l : List (Int × Int)) (s : ByteArray), l.foldl (fun s p => numsTo s [p.1, p.2]) s = s ++ plB l
  | [], s => by simp only [List.foldl_nil, plB, app_nilR]
  | p :: r, s => by
    rw [List.foldl_cons, foldl_plB r]
    simp only [numsTo, List.foldl_cons, List.foldl_nil, plB, app_assocB]
theorem cmB_eq (c : Cm) : cmB c = cmS c 0 ++ plB c.places := by
  unfold cmB cmS
  rw [List.take_length, foldl_plB, List.take_zero, List.foldl_nil]
theorem rdP_plB : ∀ (l acc : List (Int × Int)) (t : ByteArray), (∀ p ∈ l, (1 ≤ p.1 ∧ p.1 ≤ 3) ∧ (0 ≤ p.2 ∧ p.2 ≤ 63)) → rdP l.length (plB l ++ t) acc = some (acc ++ l, t)
  | [], acc, t, _ => by simp only [List.length_nil, rdP, plB, app_nilB, List.append_nil]
  | p :: r, acc, t, h => by
    have h1 := h p List.mem_cons_self
    rw [List.length_cons, rdP, plB, app_assocB, app_assocB, rdN_num (by omega) (by omega) (by decide), Option.bind_some]
    dsimp only
    rw [rdN_num (by omega) (by omega) (by decide), Option.bind_some]
    dsimp only
    rw [show ((p.1.toNat : Nat) : Int) = p.1 by omega, show ((p.2.toNat : Nat) : Int) = p.2 by omega, rdP_plB r _ t fun q hq => h q (List.mem_cons_of_mem _ hq)]
    simp

theorem parseC_cmB {c : Cm} (hc : CmOK c) (hm : mayC c = true) (t : ByteArray) : parseC (cmB c ++ t) = some (c, t) := by
  obtain ⟨⟨k1, k2, k3, k4, k5⟩, n1, n2, n3, n4, n5, n6, hp⟩ := mayC_num hm
  have s0 := hc.s0
  have s1 := hc.s1
  have e12 : numB c.places.length = numB ((c.places.length : Nat) : Int).toNat := by rw [Int.toNat_natCast]
  rw [cmB_eq, cmS0_eq, e12]
  simp only [app_assocB]
  unfold parseC
  rw [rdN_num (by omega) (by omega) (by decide), Option.bind_some]; dsimp only
  rw [rdN_num (by omega) (by omega) (by decide), Option.bind_some]; dsimp only
  rw [rdN_num (by omega) (by omega) (by decide), Option.bind_some]; dsimp only
  rw [rdT_text k4, Option.bind_some]; dsimp only
  rw [rdN_num (by omega) (by omega) (by decide), Option.bind_some]; dsimp only
  rw [rdN_num (by omega) (by omega) (by decide), Option.bind_some]; dsimp only
  rw [rdN_num (by omega) (by omega) (by decide), Option.bind_some]; dsimp only
  rw [rdN_num (by omega) (by omega) (by decide), Option.bind_some]; dsimp only
  rw [rdN_num (by omega) (by omega) (by decide), Option.bind_some]; dsimp only
  rw [rdN_num (by omega) (by omega) (by decide), Option.bind_some]; dsimp only
  rw [rdN_num (by omega) (by omega) (by decide), Option.bind_some]; dsimp only
  rw [rdN_num (by omega) (by omega) (by decide), Option.bind_some]; dsimp only
  rw [Int.toNat_natCast, rdP_plB c.places [] t hp, Option.bind_some]
  have e : ∀ z : Int, 0 ≤ z → ((z.toNat : Nat) : Int) = z := fun z h => by omega
  rw [e _ (by omega), e _ (by omega), e _ (by omega), e _ (by omega), e _ (by omega), e _ (by omega), e _ (by omega), e _ (by omega), e _ (by omega), e _ (by omega)]
  rfl

theorem takeC_back {c : Cm} (hc : CmOK c) (hm : mayC c = true) : takeC (cmB c) = some c := by
  have h := parseC_cmB hc hm ⟨#[]⟩
  rw [app_nilR] at h
  rw [takeC_parse, h, Option.bind_some, fin15, if_pos ⟨rfl, hm⟩]
theorem takeC_more {c : Cm} (hc : CmOK c) (hm : mayC c = true) : takeC (cmB c ++ ⟨#[0]⟩) = none := by
  rw [takeC_parse, parseC_cmB hc hm, Option.bind_some, fin15, if_neg (fun h => by have := h.1; cases this)]
theorem takeC_less {c : Cm} (hc : CmOK c) (hm : mayC c = true) {n : Nat} (hn : n < (cmB c).size) : takeC ((cmB c).extract 0 n) = none := by
  cases h : takeC ((cmB c).extract 0 n) with
  | none => rfl
  | some d =>
    exfalso
    rw [takeC_parse, Option.bind_eq_some_iff] at h
    obtain ⟨⟨d', r⟩, h1, h2⟩ := h
    have h3 := parseC_ext h1 ((cmB c).extract n (cmB c).size)
    have e : (cmB c).extract 0 n ++ (cmB c).extract n (cmB c).size = cmB c := by
      rw [ByteArray.extract_append_extract]
      rw [Nat.min_eq_left (by omega), Nat.max_eq_right (by omega)]
      exact ext_all _
    have h4 := parseC_cmB hc hm ⟨#[]⟩
    rw [app_nilR] at h4
    rw [e, h4] at h3
    simp only [Option.some.injEq, Prod.mk.injEq] at h3
    have h5 := congrArg ByteArray.size h3.2
    rw [size_app, ByteArray.size_extract] at h5
    have h6 : (⟨#[]⟩ : ByteArray).size = 0 := rfl
    omega

end Go.Proofs.Ytbjmafbbjhoddaa.Pv
