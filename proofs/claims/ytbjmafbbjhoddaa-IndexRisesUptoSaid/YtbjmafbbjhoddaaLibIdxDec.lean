/- What comes in as volumes, names, sessions, indexes, commands. -/
import Derived.Test.YtbjmafbbjhoddaaLibIdxSpec
namespace Go.Proofs.Ytbjmafbbjhoddaa.Pv
open Go
set_option linter.unusedVariables false
set_option linter.unusedSimpArgs false
set_option maxRecDepth 100000

abbrev shPl : Shp := .struct [.int .i64, .int .i64]
theorem dec_pl (c : List PV) (h : HasC shPl c) : ∃ p : Int × Int, mkV shPl c = plc p ∧ c = (plc p).cells := by
  obtain ⟨_, _, rfl, ⟨a, _, rfl⟩, _, _, rfl, ⟨b, _, rfl⟩, rfl⟩ := h
  exact ⟨(a, b), rfl, rfl⟩
theorem dec_row {α : Type} {e : Shp} (enc : α → PV) (hd : ∀ c, HasC e c → ∃ a, mkV e c = enc a ∧ c = (enc a).cells) {es : List PV} (h : ∀ x ∈ es, ∃ c, x = mkV e c ∧ HasC e c) : ∃ l : List α, es = l.map enc := by
  obtain ⟨l, h1, _⟩ := elems_of enc (fun _ => True) (fun c hc => let ⟨a, h, _⟩ := hd c hc; ⟨a, h, trivial⟩) h
  exact ⟨l, h1⟩
theorem wt_plc : ∀ (l : List (Int × Int)), 3 * l.length ≤ wtAll (l.map plc)
  | [] => Nat.zero_le _
  | y :: r => by
    have h1 := wt_plc r
    simp only [List.map_cons, List.length_cons, wtAll, plc, PV.wt] at h1 ⊢; omega

abbrev shCm : Shp := .struct [.int .i64, .int .i64, .int .i64, .str, .int .i64, .int .i64, .int .i64, .int .u32, .int .i64, .int .i64, .int .i64, .sl 2 shPl]
theorem dec_cm (c : List PV) (h : HasC shCm c) : ∃ v : Cm, mkV shCm c = cm v ∧ c = (cm v).cells := by
  obtain ⟨_, _, rfl, ⟨a, _, rfl⟩, _, _, rfl, ⟨b, _, rfl⟩, _, _, rfl, ⟨d, _, rfl⟩, _, _, rfl, ⟨e, _, rfl⟩, _, _, rfl, ⟨f, _, rfl⟩, _, _, rfl, ⟨g, _, rfl⟩, _, _, rfl, ⟨i, _, rfl⟩, _, _, rfl, ⟨j, _, rfl⟩, _, _, rfl, ⟨k, _, rfl⟩, _, _, rfl, ⟨m, _, rfl⟩, _, _, rfl, ⟨n, _, rfl⟩, _, _, rfl, ⟨es, rfl, _, he⟩, rfl⟩ := h
  obtain ⟨l, rfl⟩ := dec_row plc dec_pl he
  exact ⟨⟨a, b, d, e, f, g, i, j, k, m, n, l⟩, rfl, rfl⟩
theorem cms_of {l : List Cm} (h : wtAll (l.map cm) ≤ 1048576) : l.length ≤ 1048576 ∧ ∀ c ∈ l, c.places.length ≤ 1048576 ∧ c.name.size ≤ 1048576 := by
  refine ⟨by have := wt_len (l.map cm); rw [List.length_map] at this; omega, fun c hc => ?_⟩
  have w1 := wt_mem (List.mem_map_of_mem (f := cm) hc)
  have w2 := wt_plc c.places
  have w3 : wtAll (c.places.map plc) + c.name.size ≤ (cm c).wt := by simp only [cm, PV.wt, wtAll]; omega
  omega
end Go.Proofs.Ytbjmafbbjhoddaa.Pv
