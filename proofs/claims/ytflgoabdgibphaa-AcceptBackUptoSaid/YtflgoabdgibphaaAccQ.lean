/- An acceptor is taken from its bytes as it was; a byte more, or less, is none. -/
import Derived.Test.YtflgoabdgibphaaLibBack
import Derived.Test.YtflgoabdgibphaaAccN
namespace Go.Proofs.Ytflgoabdgibphaa.Pv
open Go
set_option linter.unusedVariables false
set_option linter.unusedSimpArgs false
set_option maxRecDepth 100000

def catV : List Vt → ByteArray
  | [] => ⟨#[]⟩
  | v :: r => voteB v ++ catV r
theorem foldl_cat : ∀ (l : List Vt) (s : ByteArray), l.foldl (fun s v => s ++ voteB v) s = s ++ catV l
  | [], s => by rw [catV, app_nilR]; rfl
  | v :: r, s => by rw [List.foldl_cons, foldl_cat r, catV, ByteArray.append_assoc]
theorem accB_eq (a : Acp) : accB a = numB a.1.toNat ++ (numB a.2.length ++ catV a.2) := by
  unfold accB accS
  rw [List.take_length, foldl_cat, ByteArray.append_assoc]

theorem takeV_vote {v : Vt} (hm : mayV v = true) (hb : v.2.1 < 18446744073709551616) (r : ByteArray) : takeV (voteB v ++ r) = some (v, r) := by
  have hm := of_decide_eq_true hm
  unfold takeV voteB
  rw [ByteArray.append_assoc, ByteArray.append_assoc, takeN_num (by omega)]
  dsimp only
  rw [if_neg (by rintro (h | h); exact h rfl; omega), takeN_num (by omega)]
  dsimp only
  rw [if_neg (fun h => h rfl), takeT_text (by omega) (by decide)]
  dsimp only
  rw [if_neg (fun h => h rfl)]
  congr 2
  obtain ⟨a, b, c⟩ := v
  dsimp only at hm ⊢
  rw [show ((a.toNat : Nat) : Int) = a by omega, show ((b.toNat : Nat) : Int) = b by omega]
theorem takeVs_cat : ∀ (l : List Vt) (acc : List Vt) (r : ByteArray), (∀ v ∈ l, mayV v = true ∧ v.2.1 < 18446744073709551616) → takeVs l.length (catV l ++ r) acc = some (acc ++ l, r)
  | [], acc, r, h => by rw [catV, app_nilB, List.append_nil]; rfl
  | v :: l, acc, r, h => by
    obtain ⟨h1, h2⟩ := h v (by simp)
    rw [List.length_cons, catV, takeVs, ByteArray.append_assoc, takeV_vote h1 h2]
    dsimp only
    rw [takeVs_cat l _ r fun v hv => h v (by simp [hv]), List.append_assoc]; rfl

theorem right_may {a : Acp} (h : rightP a = true) : ∀ v ∈ a.2, mayV v = true := fun v hv => by
  obtain ⟨i, hi, rfl⟩ := List.getElem_of_mem hv
  have := (okAt_iff.1 (List.all_eq_true.1 h i (List.mem_range.2 hi))).1
  rw [List.getD_eq_getElem?_getD, List.getElem?_eq_getElem hi] at this; exact this
/-- Rising slots: not more votes than slots. -/
theorem right_len {a : Acp} (h : rightP a = true) : a.2.length ≤ 65536 := by
  have key : ∀ i, i < a.2.length → (i : Int) + 1 ≤ (a.2.getD i default).1 := by
    intro i
    induction i with
    | zero =>
      intro hi
      have := of_decide_eq_true (okAt_iff.1 (List.all_eq_true.1 h 0 (List.mem_range.2 hi))).1
      omega
    | succ i ih =>
      intro hi
      have h1 := ih (by omega)
      have h2 := (okAt_iff.1 (List.all_eq_true.1 h (i + 1) (List.mem_range.2 hi))).2.2.resolve_left (by omega)
      rw [show i + 1 - 1 = i by omega] at h2
      omega
  rcases Nat.lt_or_ge 65536 a.2.length with hl | hl
  · have h1 := key 65536 hl
    have := of_decide_eq_true (okAt_iff.1 (List.all_eq_true.1 h 65536 (List.mem_range.2 hl))).1
    omega
  · exact hl

theorem takeA_bytes {a : Acp} (ha : AcOK a) (hr : rightP a = true) (t : ByteArray) : takeA (accB a ++ t) = if t = ⟨#[]⟩ then some a else none := by
  have h0 := ha.p0
  have h1 := ha.p1
  have hl := right_len hr
  unfold takeA
  rw [accB_eq, ByteArray.append_assoc, ByteArray.append_assoc, takeN_num (by omega)]
  dsimp only
  rw [takeN_num (by omega)]
  dsimp only
  rw [if_neg (by rintro (h | h | h); exact h rfl; exact h rfl; omega), takeVs_cat a.2 [] t fun v hv => ⟨right_may hr v hv, (ha.b0 v hv).2⟩]
  dsimp only
  rw [List.nil_append, show ((a.1.toNat : Nat) : Int) = a.1 by omega]
  by_cases ht : t = ⟨#[]⟩
  · rw [if_pos ⟨ht, hr⟩, if_pos ht]
  · rw [if_neg (fun h => ht h.1), if_neg ht]

theorem takeV_ext {s : ByteArray} {v : Vt} {r : ByteArray} (t : ByteArray) (h : takeV s = some (v, r)) : takeV (s ++ t) = some (v, r ++ t) := by
  unfold takeV at h ⊢
  by_cases h1 : (takeN s).2.2 ≠ 0 ∨ 65536 < (takeN s).1
  · rw [if_pos h1] at h; cases h
  rw [if_neg h1] at h
  rw [takeN_ext t (Classical.not_not.1 fun e => h1 (.inl e))]
  dsimp only
  by_cases h2 : (takeN (takeN s).2.1).2.2 ≠ 0
  · rw [if_pos h2] at h; cases h
  rw [if_neg h2] at h
  rw [if_neg (by rintro (e | e); exact e rfl; exact h1 (.inr e)), takeN_ext t (Classical.not_not.1 h2)]
  dsimp only
  by_cases h3 : (takeT (takeN (takeN s).2.1).2.1 65536).2.2 ≠ 0
  · rw [if_pos h3] at h; cases h
  rw [if_neg h3] at h
  rw [if_neg (fun e => e rfl), takeT_ext t (Classical.not_not.1 h3)]
  dsimp only
  rw [if_neg (fun e => e rfl)]
  cases h; rfl
theorem takeVs_ext : ∀ (n : Nat) (s : ByteArray) (acc : List Vt) {l : List Vt} {r : ByteArray} (t : ByteArray), takeVs n s acc = some (l, r) → takeVs n (s ++ t) acc = some (l, r ++ t)
  | 0, s, acc, l, r, t, h => by cases h; rfl
  | n + 1, s, acc, l, r, t, h => by
    rw [takeVs] at h ⊢
    cases hv : takeV s with
    | none => rw [hv] at h; cases h
    | some q =>
      obtain ⟨v, r'⟩ := q
      rw [hv] at h
      rw [takeV_ext t hv]
      exact takeVs_ext n _ _ t h
theorem takeA_ext {s t : ByteArray} {b : Acp} (h : takeA s = some b) (ht : t ≠ ⟨#[]⟩) : takeA (s ++ t) = none := by
  unfold takeA at h ⊢
  by_cases h0 : (takeN s).2.2 ≠ 0 ∨ (takeN (takeN s).2.1).2.2 ≠ 0 ∨ 65536 < (takeN (takeN s).2.1).1
  · rw [if_pos h0] at h; cases h
  rw [if_neg h0] at h
  rw [takeN_ext t (Classical.not_not.1 fun e => h0 (.inl e))]
  dsimp only
  rw [takeN_ext t (Classical.not_not.1 fun e => h0 (.inr (.inl e)))]
  dsimp only
  rw [if_neg (by rintro (e | e | e); exact e rfl; exact e rfl; exact h0 (.inr (.inr e)))]
  cases hv : takeVs (takeN (takeN s).2.1).1 (takeN (takeN s).2.1).2.1 [] with
  | none => rw [hv] at h; cases h
  | some q =>
    obtain ⟨l, r⟩ := q
    rw [hv] at h
    rw [takeVs_ext _ _ _ t hv]
    dsimp only at h ⊢
    split at h
    · rename_i hr
      rw [if_neg (fun e => ht ?_)]
      have := e.1
      rw [hr.1, app_nilB] at this; exact this
    · cases h
/-- Less bytes are none. -/
theorem takeA_cut {a : Acp} (ha : AcOK a) (hr : rightP a = true) {k : Nat} (hk : k < (accB a).size) : takeA ((accB a).extract 0 k) = none := by
  cases h : takeA ((accB a).extract 0 k) with
  | none => rfl
  | some b =>
    have ht : (accB a).extract k (accB a).size ≠ ⟨#[]⟩ := fun e => by
      have := congrArg ByteArray.size e
      rw [ByteArray.size_extract] at this
      have h0 : (⟨#[]⟩ : ByteArray).size = 0 := rfl
      omega
    have h1 := takeA_ext h ht
    have h2 : (accB a).extract 0 k ++ (accB a).extract k (accB a).size = accB a := by
      apply bi_inj
      rw [bi_append, bi_extract, bi_extract, List.drop_zero, List.take_of_length_le (i := (accB a).size) (by rw [bi_len]; exact Nat.le_refl _), List.take_append_drop]
    rw [h2] at h1
    have h3 := takeA_bytes ha hr ⟨#[]⟩
    rw [app_nilR, h1, if_pos rfl] at h3; cases h3

end Go.Proofs.Ytflgoabdgibphaa.Pv
