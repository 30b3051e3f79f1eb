/- What comes in as volumes, names, sessions, indexes, commands. -/
import Derived.Test.YtbjmafbbjhoddaaLibIdxSpec
namespace Go.Proofs.Ytbjmafbbjhoddaa.Pv
open Go
set_option linter.unusedVariables false
set_option linter.unusedSimpArgs false
set_option maxRecDepth 100000

abbrev shPl : Shp := .struct [.int .i64, .int .i64]
abbrev shVl : Shp := .struct [.int .i64, .int .i64, .int .i64, .int .i64, .int .i64, .sl 2 shPl, .sl 2 shPl, .int .i64, .int .i64]
abbrev shNm : Shp := .struct [.str, .int .i64, .int .i64, .int .i64, .int .u32]
abbrev shSs : Shp := .struct [.int .i64, .int .i64, .struct [.int .i64, .int .i64, .int .i64, .int .i64, .int .u32, .bool]]
abbrev shIx : Shp := .struct [.sl 9 shVl, .sl 5 shNm, .sl 8 shSs]

theorem dec_pl (c : List PV) (h : HasC shPl c) : ∃ p : Int × Int, mkV shPl c = plc p ∧ c = (plc p).cells := by
  obtain ⟨_, _, rfl, ⟨a, _, rfl⟩, _, _, rfl, ⟨b, _, rfl⟩, rfl⟩ := h
  exact ⟨(a, b), rfl, rfl⟩
theorem dec_row {α : Type} {e : Shp} (enc : α → PV) (hd : ∀ c, HasC e c → ∃ a, mkV e c = enc a ∧ c = (enc a).cells) {es : List PV} (h : ∀ x ∈ es, ∃ c, x = mkV e c ∧ HasC e c) : ∃ l : List α, es = l.map enc := by
  obtain ⟨l, h1, _⟩ := elems_of enc (fun _ => True) (fun c hc => let ⟨a, h, _⟩ := hd c hc; ⟨a, h, trivial⟩) h
  exact ⟨l, h1⟩
theorem dec_vl (c : List PV) (h : HasC shVl c) : ∃ v : Vl, mkV shVl c = vl v ∧ c = (vl v).cells := by
  obtain ⟨_, _, rfl, ⟨a, _, rfl⟩, _, _, rfl, ⟨b, _, rfl⟩, _, _, rfl, ⟨d, _, rfl⟩, _, _, rfl, ⟨e, _, rfl⟩, _, _, rfl, ⟨f, _, rfl⟩, _, _, rfl, ⟨es, rfl, _, he⟩, _, _, rfl, ⟨gs, rfl, _, hg⟩, _, _, rfl, ⟨i, _, rfl⟩, _, _, rfl, ⟨j, _, rfl⟩, rfl⟩ := h
  obtain ⟨l, rfl⟩ := dec_row plc dec_pl he
  obtain ⟨r, rfl⟩ := dec_row plc dec_pl hg
  exact ⟨⟨a, b, d, e, f, l, r, i, j⟩, rfl, rfl⟩
theorem dec_nm (c : List PV) (h : HasC shNm c) : ∃ v : Nm, mkV shNm c = nm v ∧ c = (nm v).cells := by
  obtain ⟨_, _, rfl, ⟨a, _, rfl⟩, _, _, rfl, ⟨b, _, rfl⟩, _, _, rfl, ⟨d, _, rfl⟩, _, _, rfl, ⟨e, _, rfl⟩, _, _, rfl, ⟨f, _, rfl⟩, rfl⟩ := h
  exact ⟨⟨a, b, d, e, f⟩, rfl, rfl⟩
theorem dec_ss (c : List PV) (h : HasC shSs c) : ∃ v : Ss, mkV shSs c = ss v ∧ c = (ss v).cells := by
  obtain ⟨_, _, rfl, ⟨a, _, rfl⟩, _, _, rfl, ⟨b, _, rfl⟩, _, _, rfl, ⟨_, _, rfl, ⟨d, _, rfl⟩, _, _, rfl, ⟨e, _, rfl⟩, _, _, rfl, ⟨f, _, rfl⟩, _, _, rfl, ⟨g, _, rfl⟩, _, _, rfl, ⟨i, _, rfl⟩, _, _, rfl, ⟨j, rfl⟩, rfl⟩, rfl⟩ := h
  exact ⟨⟨a, b, d, e, f, g, i, j⟩, rfl, rfl⟩
theorem dec_ix (c : List PV) (h : HasC shIx c) : ∃ x : Ix, mkV shIx c = ix x ∧ c = (ix x).cells := by
  obtain ⟨_, _, rfl, ⟨es, rfl, _, he⟩, _, _, rfl, ⟨gs, rfl, _, hg⟩, _, _, rfl, ⟨ks, rfl, _, hk⟩, rfl⟩ := h
  obtain ⟨l, rfl⟩ := dec_row vl dec_vl he
  obtain ⟨r, rfl⟩ := dec_row nm dec_nm hg
  obtain ⟨t, rfl⟩ := dec_row ss dec_ss hk
  exact ⟨⟨l, r, t⟩, rfl, rfl⟩
theorem wt_plc : ∀ (l : List (Int × Int)), 3 * l.length ≤ wtAll (l.map plc)
  | [] => Nat.zero_le _
  | y :: r => by
    have h1 := wt_plc r
    simp only [List.map_cons, List.length_cons, wtAll, plc, PV.wt] at h1 ⊢; omega

abbrev shCm : Shp := .struct [.int .i64, .int .i64, .int .i64, .str, .int .i64, .int .i64, .int .i64, .int .u32, .int .i64, .int .i64, .int .i64, .sl 2 shPl]
theorem dec_cm (c : List PV) (h : HasC shCm c) : ∃ v : Cm, mkV shCm c = cm v ∧ c = (cm v).cells := by
  obtain ⟨_, _, rfl, ⟨a, _, rfl⟩, _, _, rfl, ⟨b, _, rfl⟩, _, _, rfl, ⟨d, _, rfl⟩, _, _, rfl, ⟨e, _, rfl⟩, _, _, rfl, ⟨f, _, rfl⟩, _, _, rfl, ⟨g, _, rfl⟩, _, _, rfl, ⟨i, _, rfl⟩, _, _, rfl, ⟨j, _, rfl⟩, _, _, rfl, ⟨k, _, rfl⟩, _, _, rfl, ⟨m, _, rfl⟩, _, _, rfl, ⟨n, _, rfl⟩, _, _, rfl, ⟨es, rfl, _, he⟩, rfl⟩ := h
  obtain ⟨l, rfl⟩ := dec_row plc dec_pl he
  exact ⟨⟨a, b, d, e, f, g, i, j, k, m, n, l⟩, rfl, rfl⟩
theorem wt_min {α : Type} {f : α → PV} {m : Nat} (h : ∀ x, m ≤ (f x).wt) : ∀ l : List α, m * l.length ≤ wtAll (l.map f)
  | [] => Nat.zero_le _
  | y :: r => by
    have h1 := wt_min h r
    have h2 := h y
    simp only [List.map_cons, List.length_cons, wtAll, Nat.mul_add, Nat.mul_one]; omega
theorem okB_of {x : Ix} (h : (ix x).wt ≤ 1048576) : OkB 400000 x := by
  simp only [ix, PV.wt, wtAll] at h
  have h1 := wt_min (f := vl) (m := 3) (fun v => by simp only [vl, PV.wt, wtAll]; omega) x.vols
  have h2 := wt_min (f := nm) (m := 3) (fun v => by simp only [nm, PV.wt, wtAll]; omega) x.names
  have h3 := wt_min (f := ss) (m := 3) (fun v => by simp only [ss, PV.wt, wtAll]; omega) x.last
  refine ⟨by omega, by omega, by omega, fun v hv => ?_, fun v hv => ?_⟩
  · have w1 := wt_mem (List.mem_map_of_mem (f := vl) hv)
    have w2 := wt_plc v.parts
    have w3 : wtAll (v.parts.map plc) ≤ (vl v).wt := by simp only [vl, PV.wt, wtAll]; omega
    omega
  · have w1 := wt_mem (List.mem_map_of_mem (f := vl) hv)
    have w2 := wt_plc v.places
    have w3 : wtAll (v.places.map plc) ≤ (vl v).wt := by simp only [vl, PV.wt, wtAll]; omega
    omega

theorem cm_of {c : Cm} (h : (cm c).wt ≤ 1048576) : c.places.length ≤ 1048576 ∧ c.name.size ≤ 1048576 := by
  have w2 := wt_plc c.places
  have w3 : wtAll (c.places.map plc) + c.name.size ≤ (cm c).wt := by simp only [cm, PV.wt, wtAll]; omega
  omega

end Go.Proofs.Ytbjmafbbjhoddaa.Pv
