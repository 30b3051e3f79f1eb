/- What was written as bytes is taken as it was. -/
import Derived.Test.YtbjmafbbjhoddaaLibTake
namespace Go.Proofs.Ytbjmafbbjhoddaa.Pv
open Go
set_option linter.unusedVariables false
set_option linter.unusedSimpArgs false
set_option maxRecDepth 100000

theorem numT_mem : ∀ (k : Nat) (acc : List Int), (∀ x ∈ acc, 0 ≤ x ∧ x ≤ 255) → ∀ x ∈ numT k acc, 0 ≤ x ∧ x ≤ 255 := by
  intro k
  induction k using Nat.strongRecOn with
  | _ k ih =>
    intro acc h
    by_cases h0 : k = 0
    · subst h0; rw [numT_0]; exact h
    · rw [numT_s h0]
      refine ih (k / 128) (Nat.div_lt_self (by omega) (by decide)) _ fun x hx => ?_
      rcases List.mem_cons.1 hx with rfl | hx
      · have := Nat.mod_lt k (show 0 < 128 by decide); omega
      · exact h x hx
theorem numL_mem (v : Nat) : ∀ x ∈ numL v, 0 ≤ x ∧ x ≤ 255 := numT_mem _ _ fun x hx => by
  rw [List.mem_singleton] at hx; subst hx
  have := Nat.mod_lt v (show 0 < 128 by decide); omega
theorem numT_head : ∀ (k : Nat) (acc : List Int), k ≠ 0 → ∃ (d : Nat) (r : List Int), 1 ≤ d ∧ d < 128 ∧ numT k acc = ((d : Int) + 128) :: r := by
  intro k
  induction k using Nat.strongRecOn with
  | _ k ih =>
    intro acc h0
    rw [numT_s h0]
    by_cases h1 : k / 128 = 0
    · rw [h1, numT_0]
      exact ⟨k % 128, acc, by omega, Nat.mod_lt _ (by decide), rfl⟩
    · exact ih (k / 128) (Nat.div_lt_self (by omega) (by decide)) _ h1
theorem numL_head (v : Nat) : ∃ x r, numL v = x :: r ∧ x ≠ 128 := by
  unfold numL
  by_cases h : v / 128 = 0
  · rw [h, numT_0]; exact ⟨_, _, rfl, by have := Nat.mod_lt v (show 0 < 128 by decide); omega⟩
  · obtain ⟨d, r, h1, h2, h3⟩ := numT_head _ [((v % 128 : Nat) : Int)] h
    exact ⟨_, _, h3, by omega⟩
theorem tkN_numT : ∀ (k : Nat) (acc r : List Int), k < 2 ^ 64 → tkN (numT k acc ++ r) 0 = tkN (acc ++ r) k := by
  intro k
  induction k using Nat.strongRecOn with
  | _ k ih =>
    intro acc r hk
    by_cases h0 : k = 0
    · subst h0; rw [numT_0]
    · rw [numT_s h0, ih (k / 128) (Nat.div_lt_self (by omega) (by decide)) _ _ (by omega), List.cons_append, tkN, if_neg (by omega), if_neg (by omega)]
      congr 1
      omega
theorem takeN_num {v : Nat} (hv : v < 18446744073709551616) (r : ByteArray) : takeN (numB v ++ r) = (v, r, 0) := by
  have hb : bi (numB v ++ r) = numL v ++ bi r := by rw [bi_append, numB, bi_ofI (numL_mem v)]
  obtain ⟨x, q, h1, h2⟩ := numL_head v
  have h3 : takeL (numL v ++ bi r) = (v, bi r, 0) := by
    unfold takeL
    rw [if_neg (by rw [h1]; simp), if_neg (by rw [h1]; exact h2)]
    unfold numL
    rw [tkN_numT _ _ _ (by omega), List.cons_append, tkN, if_neg (by omega), if_pos (by have := Nat.mod_lt v (show 0 < 128 by decide); omega), List.nil_append]
    congr 1
    have := Nat.mod_lt v (show 0 < 128 by decide)
    omega
  unfold takeN
  rw [hb, h3]
  show (v, ofI (bi r), (0 : Int)) = _
  rw [ofI_bi]

theorem tkN_ext : ∀ (l : List Int) (v : Nat) (t : List Int), (tkN l v).2.2 = 0 → tkN (l ++ t) v = ((tkN l v).1, (tkN l v).2.1 ++ t, 0)
  | [], v, t, h => by simp [tkN] at h
  | b :: r, v, t, h => by
    rw [tkN] at h
    rw [List.cons_append, tkN, tkN]
    split
    · rename_i h1; rw [if_pos h1] at h; cases h
    · rename_i h1
      rw [if_neg h1] at h
      split
      · rfl
      · rename_i h2
        rw [if_neg h2] at h
        exact tkN_ext r _ t h
theorem takeN_ext {s : ByteArray} (t : ByteArray) (h : (takeN s).2.2 = 0) : takeN (s ++ t) = ((takeN s).1, (takeN s).2.1 ++ t, 0) := by
  unfold takeN at h ⊢
  dsimp only at h ⊢
  have e : takeL (bi s ++ bi t) = ((takeL (bi s)).1, (takeL (bi s)).2.1 ++ bi t, 0) := by
    by_cases h0 : bi s = []
    · rw [takeL, if_pos h0] at h; cases h
    obtain ⟨x, q, hx⟩ := List.exists_cons_of_ne_nil h0
    rw [hx] at h ⊢
    by_cases h1 : x = 128
    · rw [takeL, if_neg (by simp), if_pos (show (x :: q).getD 0 0 = 128 from h1)] at h; cases h
    · have hL : takeL (x :: q) = tkN (x :: q) 0 := by rw [takeL, if_neg (by simp), if_neg (show ¬ (x :: q).getD 0 0 = 128 from h1)]
      have hL2 : takeL (x :: q ++ bi t) = tkN (x :: q ++ bi t) 0 := by rw [takeL, if_neg (by simp), if_neg (show ¬ (x :: q ++ bi t).getD 0 0 = 128 from h1)]
      rw [hL] at h
      rw [hL2, hL, tkN_ext _ _ _ h]
  rw [bi_append, e]
  show ((takeL (bi s)).1, ofI ((takeL (bi s)).2.1 ++ bi t), (0 : Int)) = _
  rw [← ofI_app, ofI_bi]

theorem ext_0 (q t : ByteArray) {n : Nat} (h : n ≤ q.size) : (q ++ t).extract 0 n = q.extract 0 n := by
  apply bi_inj
  rw [bi_extract, bi_extract, bi_append, List.take_append_of_le_length (by rw [bi_len]; exact h)]
theorem ext_n (q t : ByteArray) {n : Nat} (h : n ≤ q.size) : (q ++ t).extract n (q ++ t).size = q.extract n q.size ++ t := by
  apply bi_inj
  rw [bi_append, bi_extract, bi_extract, bi_append, List.take_of_length_le (by rw [← bi_append, bi_len]; exact Nat.le_refl _), List.take_of_length_le (by rw [bi_len]; exact Nat.le_refl _), List.drop_append_of_le_length (by rw [bi_len]; exact h)]
theorem ext_all (q : ByteArray) : q.extract 0 q.size = q := by
  apply bi_inj
  rw [bi_extract, List.drop_zero, List.take_of_length_le (by rw [bi_len]; exact Nat.le_refl _)]
theorem ext_none (q : ByteArray) : q.extract q.size q.size = ⟨#[]⟩ := by
  apply bi_inj
  rw [bi_extract, List.drop_eq_nil_of_le (by rw [List.length_take, bi_len]; omega)]; rfl
theorem app_nilB (t : ByteArray) : (⟨#[]⟩ : ByteArray) ++ t = t := by apply bi_inj; rw [bi_append]; rfl
theorem app_nilR (t : ByteArray) : t ++ (⟨#[]⟩ : ByteArray) = t := by apply bi_inj; rw [bi_append]; exact List.append_nil _

theorem takeT_ext {s : ByteArray} {m : Nat} (t : ByteArray) (h : (takeT s m).2.2 = 0) : takeT (s ++ t) m = ((takeT s m).1, (takeT s m).2.1 ++ t, 0) := by
  unfold takeT at h ⊢
  by_cases h1 : (takeN s).2.2 ≠ 0
  · rw [if_pos h1] at h; exact absurd h h1
  have h1' : (takeN s).2.2 = 0 := Classical.not_not.1 h1
  rw [if_neg h1] at h ⊢
  rw [takeN_ext t h1']
  dsimp only
  rw [if_neg (fun h => h rfl)]
  by_cases h2 : m < (takeN s).1
  · rw [if_pos h2] at h; cases h
  rw [if_neg h2] at h ⊢
  rw [if_neg h2]
  by_cases h3 : (takeN s).2.1.size < (takeN s).1
  · rw [if_pos h3] at h; cases h
  rw [if_neg h3] at h ⊢
  rw [if_neg (by rw [ByteArray.size_append]; omega), ext_0 _ _ (by omega), ext_n _ _ (by omega)]
theorem takeT_text {t : ByteArray} {m : Nat} (h : t.size ≤ m) (hm : m ≤ 1048576) (r : ByteArray) : takeT (textB t ++ r) m = (t, r, 0) := by
  unfold takeT textB
  rw [ByteArray.append_assoc, takeN_num (by omega)]
  dsimp only
  rw [if_neg (fun h => h rfl), if_neg (by omega), if_neg (by rw [ByteArray.size_append]; omega), ext_0 _ _ (Nat.le_refl _), ext_n _ _ (Nat.le_refl _), ext_all, ext_none, app_nilB]

end Go.Proofs.Ytbjmafbbjhoddaa.Pv
