/- What comes in as volumes, names, sessions, indexes, commands. -/
import Derived.Test.YtbjmafbbjhoddaaLibIdxSpec
namespace Go.Proofs.Ytbjmafbbjhoddaa.Pv
open Go
set_option linter.unusedVariables false
set_option linter.unusedSimpArgs false
set_option maxRecDepth 100000

abbrev shPl : Shp := .struct [.int .i64, .int .i64]
theorem dec_pl (c : List PV) (h : HasC shPl c) : ∃ p : Int × Int, mkV shPl c = plc p ∧ c = (plc p).cells := by
  obtain ⟨_, _, rfl, ⟨a, _, rfl⟩, _, _, rfl, ⟨b, _, rfl⟩, rfl⟩ := h
  exact ⟨(a, b), rfl, rfl⟩
theorem dec_row {α : Type} {e : Shp} (enc : α → PV) (hd : ∀ c, HasC e c → ∃ a, mkV e c = enc a ∧ c = (enc a).cells) {es : List PV} (h : ∀ x ∈ es, ∃ c, x = mkV e c ∧ HasC e c) : ∃ l : List α, es = l.map enc := by
  obtain ⟨l, h1, _⟩ := elems_of enc (fun _ => True) (fun c hc => let ⟨a, h, _⟩ := hd c hc; ⟨a, h, trivial⟩) h
  exact ⟨l, h1⟩
theorem wt_plc : ∀ (l : List (Int × Int)), 3 * l.length ≤ wtAll (l.map plc)
  | [] => Nat.zero_le _
  | y :: r => by
    have h1 := wt_plc r
    simp only [List.map_cons, List.length_cons, wtAll, plc, PV.wt] at h1 ⊢; omega

abbrev shCm : Shp := .struct [.int .i64, .int .i64, .int .i64, .str, .int .i64, .int .i64, .int .i64, .int .u32, .int .i64, .int .i64, .int .i64, .sl 2 shPl]
theorem cm_of {c : Cm} (h : (cm c).wt ≤ 1048576) : c.places.length ≤ 1048576 ∧ c.name.size ≤ 1048576 := by
  have w2 := wt_plc c.places
  have w3 : wtAll (c.places.map plc) + c.name.size ≤ (cm c).wt := by simp only [cm, PV.wt, wtAll]; omega
  omega

end Go.Proofs.Ytbjmafbbjhoddaa.Pv
