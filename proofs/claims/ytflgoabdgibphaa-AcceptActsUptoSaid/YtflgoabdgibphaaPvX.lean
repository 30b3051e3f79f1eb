/- The call of a law, from its contract. -/
import Derived.Test.YtflgoabdgibphaaPvW
import Derived.ChangeShapes
import Derived.WideShapes
import Derived.Below
import Derived.ChangeMaps5
namespace Go.Proofs.Ytflgoabdgibphaa.Pv
open Go
set_option linter.unusedVariables false
set_option linter.unusedSimpArgs false

theorem RepP.lt0 {K : Nat → Kind} {w : World} {v : Value} {p : PV} (h : RepP K w v p) (k : Nat) : p.lt k := by
  induction h with
  | agg vs cs hl h ih =>
    simp only [PV.lt]; rw [ltAll_iff]; intro c hc
    obtain ⟨j, hj, rfl⟩ := List.getElem_of_mem hc
    exact ih j vs[j] cs[j] (by simp) (by simp [hj])
  | _ => trivial

theorem calls_of {P : Program} {f : FuncId} {ps : List PV} (hc : SatCall P f ps [] fun r σ' => r = .bool true) {W : World} {args : Array Value} (hl : args.size = ps.length)
    (hr : ∀ (j : Nat) v p, args[j]? = some v → ps[j]? = some p → RepP (K0 W) W v p) : Calls P f args W fun e W' => e = .returned (.bool true) ∧ RowKit.Below W.heap.size W W' := by
  refine callsIn_wide.1 (CallsIn.mono (F := Wd none) (hc (fun b => b < W.heap.size) ⟨K0 W, fun _ => ⟨0, (0, 0), false⟩⟩ W args hl ?_) fun e W' q => ?_)
  · have hslot : ∀ t, look (argEnv ps) t = .dead ∨ RepS ⟨K0 W, fun _ => ⟨0, (0, 0), false⟩⟩ W (args.getD t undef) (look (argEnv ps) t) := by
      intro t
      rw [look_argFrom, if_pos (Nat.zero_le _), Nat.sub_zero]
      cases hp : ps[t]? with
      | none => exact .inl rfl
      | some p =>
        have ht : t < args.size := by rw [hl]; exact (List.getElem?_eq_some_iff.1 hp).1
        have e : args.getD t undef = args[t] := by simp [ht]
        rw [e]
        exact .inr (.pl (hr t args[t] p (by simp [ht]) hp))
    have hown : ∀ l b, ownAt ⟨K0 W, fun _ => ⟨0, (0, 0), false⟩⟩ (argEnv ps) [] args W l ≠ some b := by
      intro l b h
      cases l with
      | slot t j => exact ownSlot_nil (hslot t) j b h
      | cell i j => simp [ownAt] at h
    refine ⟨rfl, fun t => ?_, fun t => ?_, fun i e h => by simp at h, fun i e h => by simp at h, fun b hb => ?_, fun i e h => by simp at h, fun l1 l2 b h1 _ => absurd h1 (hown l1 b), fun l b h => absurd h (hown l b), fun b hb => hb, trivial, fun d hd => (by cases hd), Nat.le_refl _⟩
    · rcases hslot t with e | e
      · rw [e]; exact .one (.dead _)
      · exact .one (.sh e)
    · rcases hslot t with e | e
      · rw [e]; trivial
      · rw [look_argFrom, if_pos (Nat.zero_le _), Nat.sub_zero]
        cases hp : ps[t]? with
        | none => trivial
        | some p =>
          have ht : t < args.size := by rw [hl]; exact (List.getElem?_eq_some_iff.1 hp).1
          exact (hr t args[t] p (by simp [ht]) hp).lt0 _
    · have hb : K0 W b ≠ .free := hb
      unfold K0 at hb
      split at hb
      · rename_i h; exact (Array.getElem?_eq_some_iff.1 h).1
      · exact absurd rfl hb
  · obtain ⟨v, r, σ', G', rfl, rfl, hs, hv⟩ := q
    have := hs.rep 0
    have e := (this.toS rfl).bool
    simp at e
    exact ⟨by rw [e], hv.os, hv.tape, hv.output, hv.size, fun k hk => (hv.fr k hk).1⟩

section
variable {H : Type} {enc : TypeId × Value → H} {P : Program} {W : World}
open Go.ChangeShapes Go.WideShapes

theorem open_val {r : Reach} {b0 : Nat} {sh : Shp} {t : TypeId} {v : Value} {d : DataW H} {pl : List MemPlace} (hok : shOK P sh t = true) (hval : Value.okWide P W r b0 t v)
    (hd : DataW.Trod enc P W 0 (fun _ => true) true t v d pl) : ∃ c, HasC sh c ∧ RepP (K0 W) W v (mkV sh c) := by
  obtain ⟨fuel, hf⟩ := hd
  obtain ⟨c, h1, h2⟩ := open_sh fuel sh t _ _ hf hok
  refine ⟨c, h1, ?_⟩
  have one : ∀ p, v.cells = #[v] → c = [p] → RepP (K0 W) W v p := fun p e1 e2 => by
    rw [e1, e2] at h2
    exact h2.2 0 v p rfl rfl
  cases sh with
  | bool =>
    simp only [shOK] at hok
    split at hok
    · rename_i ht; obtain ⟨b, rfl⟩ := okWide_bool ht hval; obtain ⟨b', rfl⟩ := h1; exact one _ rfl rfl
    · cases hok
  | int k =>
    simp only [shOK] at hok
    split at hok
    · rename_i ht; obtain ⟨b, rfl⟩ := okWide_int ht hval; obtain ⟨n, _, rfl⟩ := h1; exact one _ rfl rfl
    · cases hok
  | str =>
    simp only [shOK] at hok
    split at hok
    · rename_i ht; obtain ⟨b, rfl⟩ := okWide_string ht hval; obtain ⟨n, _, rfl⟩ := h1; exact one _ rfl rfl
    · cases hok
  | sl sz e =>
    simp only [shOK] at hok
    split at hok
    · rename_i ht; obtain ⟨a, l, c', rfl⟩ := okWide_slice ht hval; obtain ⟨n, rfl, _⟩ := h1; exact one _ rfl rfl
    · cases hok
  | struct fs =>
    simp only [shOK] at hok
    split at hok
    · rename_i gs ht
      unfold Value.okWide at hval
      rw [ht] at hval
      obtain ⟨cs, rfl, _⟩ := hval
      have h2 : RepC W cs.toList c := h2
      exact .agg cs c (by simpa using h2.1) fun j v' c' hv hc => h2.2 j v' c' (by simpa using hv) hc
    · cases hok

end
end Go.Proofs.Ytflgoabdgibphaa.Pv
