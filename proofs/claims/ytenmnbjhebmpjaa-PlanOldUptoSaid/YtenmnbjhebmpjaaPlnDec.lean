/- What comes in as volumes, names, sessions, nodes, parts. -/
import Derived.Test.YtenmnbjhebmpjaaPlnF
import Derived.Test.YtenmnbjhebmpjaaLibLay
namespace Go.Proofs.Ytenmnbjhebmpjaa.Pv
open Go
set_option linter.unusedVariables false
set_option linter.unusedSimpArgs false
set_option maxRecDepth 100000

abbrev shPl : Shp := .struct [.int .i64, .int .i64]
abbrev shVl : Shp := .struct [.int .i64, .int .i64, .int .i64, .int .i64, .int .i64, .sl 2 shPl, .sl 2 shPl, .int .i64, .int .i64]
abbrev shNm : Shp := .struct [.str, .int .i64, .int .i64, .int .i64, .int .u32]
abbrev shSs : Shp := .struct [.int .i64, .int .i64, .struct [.int .i64, .int .i64, .int .i64, .int .i64, .int .u32, .bool]]
abbrev shIx : Shp := .struct [.sl 9 shVl, .sl 5 shNm, .sl 8 shSs]
theorem dec_pl (c : List PV) (h : HasC shPl c) : ∃ p : Int × Int, mkV shPl c = plc p ∧ c = (plc p).cells := by
  obtain ⟨_, _, rfl, ⟨a, _, rfl⟩, _, _, rfl, ⟨b, _, rfl⟩, rfl⟩ := h
  exact ⟨(a, b), rfl, rfl⟩
theorem dec_row {α : Type} {e : Shp} (enc : α → PV) (hd : ∀ c, HasC e c → ∃ a, mkV e c = enc a ∧ c = (enc a).cells) {es : List PV} (h : ∀ x ∈ es, ∃ c, x = mkV e c ∧ HasC e c) : ∃ l : List α, es = l.map enc := by
  obtain ⟨l, h1, _⟩ := elems_of enc (fun _ => True) (fun c hc => let ⟨a, h, _⟩ := hd c hc; ⟨a, h, trivial⟩) h
  exact ⟨l, h1⟩
theorem dec_vl (c : List PV) (h : HasC shVl c) : ∃ v : Vl, mkV shVl c = vl v ∧ c = (vl v).cells := by
  obtain ⟨_, _, rfl, ⟨a, _, rfl⟩, _, _, rfl, ⟨b, _, rfl⟩, _, _, rfl, ⟨d, _, rfl⟩, _, _, rfl, ⟨e, _, rfl⟩, _, _, rfl, ⟨f, _, rfl⟩, _, _, rfl, ⟨es, rfl, _, he⟩, _, _, rfl, ⟨gs, rfl, _, hg⟩, _, _, rfl, ⟨i, _, rfl⟩, _, _, rfl, ⟨j, _, rfl⟩, rfl⟩ := h
  obtain ⟨l, rfl⟩ := dec_row plc dec_pl he
  obtain ⟨r, rfl⟩ := dec_row plc dec_pl hg
  exact ⟨⟨a, b, d, e, f, l, r, i, j⟩, rfl, rfl⟩
theorem dec_nm (c : List PV) (h : HasC shNm c) : ∃ v : Nm, mkV shNm c = nm v ∧ c = (nm v).cells := by
  obtain ⟨_, _, rfl, ⟨a, _, rfl⟩, _, _, rfl, ⟨b, _, rfl⟩, _, _, rfl, ⟨d, _, rfl⟩, _, _, rfl, ⟨e, _, rfl⟩, _, _, rfl, ⟨f, _, rfl⟩, rfl⟩ := h
  exact ⟨⟨a, b, d, e, f⟩, rfl, rfl⟩
theorem dec_ss (c : List PV) (h : HasC shSs c) : ∃ v : Ss, mkV shSs c = ss v ∧ c = (ss v).cells := by
  obtain ⟨_, _, rfl, ⟨a, _, rfl⟩, _, _, rfl, ⟨b, _, rfl⟩, _, _, rfl, ⟨_, _, rfl, ⟨d, _, rfl⟩, _, _, rfl, ⟨e, _, rfl⟩, _, _, rfl, ⟨f, _, rfl⟩, _, _, rfl, ⟨g, _, rfl⟩, _, _, rfl, ⟨i, _, rfl⟩, _, _, rfl, ⟨j, rfl⟩, rfl⟩, rfl⟩ := h
  exact ⟨⟨a, b, d, e, f, g, i, j⟩, rfl, rfl⟩
theorem dec_ix (c : List PV) (h : HasC shIx c) : ∃ x : Ix, mkV shIx c = ix x ∧ c = (ix x).cells := by
  obtain ⟨_, _, rfl, ⟨es, rfl, _, he⟩, _, _, rfl, ⟨gs, rfl, _, hg⟩, _, _, rfl, ⟨ks, rfl, _, hk⟩, rfl⟩ := h
  obtain ⟨l, rfl⟩ := dec_row vl dec_vl he
  obtain ⟨r, rfl⟩ := dec_row nm dec_nm hg
  obtain ⟨t, rfl⟩ := dec_row ss dec_ss hk
  exact ⟨⟨l, r, t⟩, rfl, rfl⟩
theorem wt_plc : ∀ (l : List (Int × Int)), 3 * l.length ≤ wtAll (l.map plc)
  | [] => Nat.zero_le _
  | y :: r => by
    have h1 := wt_plc r
    simp only [List.map_cons, List.length_cons, wtAll, plc, PV.wt] at h1 ⊢; omega
end Go.Proofs.Ytenmnbjhebmpjaa.Pv
