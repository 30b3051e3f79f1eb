/- What comes in as volumes, names, sessions, nodes, parts. -/
import Derived.Test.YtenmnbjhebmpjaaPlnF
import Derived.Test.YtenmnbjhebmpjaaLibLay
namespace Go.Proofs.Ytenmnbjhebmpjaa.Pv
open Go
set_option linter.unusedVariables false
set_option linter.unusedSimpArgs false
set_option maxRecDepth 100000

abbrev shPl : Shp := .struct [.int .i64, .int .i64]
abbrev shVl : Shp := .struct [.int .i64, .int .i64, .int .i64, .int .i64, .int .i64, .sl 2 shPl, .sl 2 shPl, .int .i64, .int .i64]
abbrev shNm : Shp := .struct [.str, .int .i64, .int .i64, .int .i64, .int .u32]
abbrev shSs : Shp := .struct [.int .i64, .int .i64, .struct [.int .i64, .int .i64, .int .i64, .int .i64, .int .u32, .bool]]
abbrev shIx : Shp := .struct [.sl 9 shVl, .sl 5 shNm, .sl 8 shSs]
abbrev shIv : Shp := .struct [shPl, .bool, .sl 2 shPl]

theorem dec_pl (c : List PV) (h : HasC shPl c) : ∃ p : Int × Int, mkV shPl c = plc p ∧ c = (plc p).cells := by
  obtain ⟨_, _, rfl, ⟨a, _, rfl⟩, _, _, rfl, ⟨b, _, rfl⟩, rfl⟩ := h
  exact ⟨(a, b), rfl, rfl⟩
theorem dec_row {α : Type} {e : Shp} (enc : α → PV) (hd : ∀ c, HasC e c → ∃ a, mkV e c = enc a ∧ c = (enc a).cells) {es : List PV} (h : ∀ x ∈ es, ∃ c, x = mkV e c ∧ HasC e c) : ∃ l : List α, es = l.map enc := by
  obtain ⟨l, h1, _⟩ := elems_of enc (fun _ => True) (fun c hc => let ⟨a, h, _⟩ := hd c hc; ⟨a, h, trivial⟩) h
  exact ⟨l, h1⟩
theorem dec_vl (c : List PV) (h : HasC shVl c) : ∃ v : Vl, mkV shVl c = vl v ∧ c = (vl v).cells := by
  obtain ⟨_, _, rfl, ⟨a, _, rfl⟩, _, _, rfl, ⟨b, _, rfl⟩, _, _, rfl, ⟨d, _, rfl⟩, _, _, rfl, ⟨e, _, rfl⟩, _, _, rfl, ⟨f, _, rfl⟩, _, _, rfl, ⟨es, rfl, _, he⟩, _, _, rfl, ⟨gs, rfl, _, hg⟩, _, _, rfl, ⟨i, _, rfl⟩, _, _, rfl, ⟨j, _, rfl⟩, rfl⟩ := h
  obtain ⟨l, rfl⟩ := dec_row plc dec_pl he
  obtain ⟨r, rfl⟩ := dec_row plc dec_pl hg
  exact ⟨⟨a, b, d, e, f, l, r, i, j⟩, rfl, rfl⟩
theorem dec_nm (c : List PV) (h : HasC shNm c) : ∃ v : Nm, mkV shNm c = nm v ∧ c = (nm v).cells := by
  obtain ⟨_, _, rfl, ⟨a, _, rfl⟩, _, _, rfl, ⟨b, _, rfl⟩, _, _, rfl, ⟨d, _, rfl⟩, _, _, rfl, ⟨e, _, rfl⟩, _, _, rfl, ⟨f, _, rfl⟩, rfl⟩ := h
  exact ⟨⟨a, b, d, e, f⟩, rfl, rfl⟩
theorem dec_ss (c : List PV) (h : HasC shSs c) : ∃ v : Ss, mkV shSs c = ss v ∧ c = (ss v).cells := by
  obtain ⟨_, _, rfl, ⟨a, _, rfl⟩, _, _, rfl, ⟨b, _, rfl⟩, _, _, rfl, ⟨_, _, rfl, ⟨d, _, rfl⟩, _, _, rfl, ⟨e, _, rfl⟩, _, _, rfl, ⟨f, _, rfl⟩, _, _, rfl, ⟨g, _, rfl⟩, _, _, rfl, ⟨i, _, rfl⟩, _, _, rfl, ⟨j, rfl⟩, rfl⟩, rfl⟩ := h
  exact ⟨⟨a, b, d, e, f, g, i, j⟩, rfl, rfl⟩
theorem dec_ix (c : List PV) (h : HasC shIx c) : ∃ x : Ix, mkV shIx c = ix x ∧ c = (ix x).cells := by
  obtain ⟨_, _, rfl, ⟨es, rfl, _, he⟩, _, _, rfl, ⟨gs, rfl, _, hg⟩, _, _, rfl, ⟨ks, rfl, _, hk⟩, rfl⟩ := h
  obtain ⟨l, rfl⟩ := dec_row vl dec_vl he
  obtain ⟨r, rfl⟩ := dec_row nm dec_nm hg
  obtain ⟨t, rfl⟩ := dec_row ss dec_ss hk
  exact ⟨⟨l, r, t⟩, rfl, rfl⟩
theorem dec_iv (c : List PV) (h : HasC shIv c) : ∃ x : Iv, mkV shIv c = iv x ∧ c = (iv x).cells := by
  obtain ⟨_, _, rfl, ⟨_, _, rfl, ⟨a, _, rfl⟩, _, _, rfl, ⟨b, _, rfl⟩, rfl⟩, _, _, rfl, ⟨d, rfl⟩, _, _, rfl, ⟨es, rfl, _, he⟩, rfl⟩ := h
  obtain ⟨l, rfl⟩ := dec_row plc dec_pl he
  exact ⟨((a, b), d, l), rfl, rfl⟩

theorem okIx_of {x : Ix} (h : (ix x).wt ≤ 1048576) : OkIx x := by
  simp only [ix, PV.wt, wtAll] at h
  refine ⟨?_, fun v hv => ?_⟩
  · have := wt_len (x.vols.map vl); rw [List.length_map] at this; omega
  · have h1 := wt_mem (List.mem_map_of_mem (f := vl) hv)
    have h2 := wt_len (v.places.map plc)
    rw [List.length_map] at h2
    have h3 : wtAll (v.places.map plc) ≤ (vl v).wt := by simp only [vl, PV.wt, wtAll]; omega
    omega
theorem okIv_of {l : List Iv} (h : wtAll (l.map iv) ≤ 1048576) : okIv l := by
  refine ⟨?_, fun y hy => ?_⟩
  · have := wt_len (l.map iv); rw [List.length_map] at this; omega
  · have h1 := wt_mem (List.mem_map_of_mem (f := iv) hy)
    have h2 := wt_len (y.2.2.map plc)
    rw [List.length_map] at h2
    have h3 : wtAll (y.2.2.map plc) ≤ (iv y).wt := by simp only [iv, PV.wt, wtAll]; omega
    omega

abbrev shPt : Shp := .struct [.int .i64, .str]
theorem dec_pt (c : List PV) (h : HasC shPt c) : ∃ a : Int × ByteArray, mkV shPt c = prt a ∧ c = (prt a).cells := by
  obtain ⟨_, _, rfl, ⟨a, _, rfl⟩, _, _, rfl, ⟨s, _, rfl⟩, rfl⟩ := h
  exact ⟨(a, s), rfl, rfl⟩
theorem wt_plc : ∀ (l : List (Int × Int)), 3 * l.length ≤ wtAll (l.map plc)
  | [] => Nat.zero_le _
  | y :: r => by
    have h1 := wt_plc r
    simp only [List.map_cons, List.length_cons, wtAll, plc, PV.wt] at h1 ⊢; omega
theorem wt_pt : ∀ (l : List (Int × ByteArray)), l.length ≤ wtAll (l.map prt) ∧ ∀ x ∈ l, x.2.size ≤ wtAll (l.map prt)
  | [] => ⟨Nat.zero_le _, fun x h => by cases h⟩
  | y :: r => by
    obtain ⟨h1, h2⟩ := wt_pt r
    simp only [List.map_cons, List.length_cons, wtAll, prt, PV.wt] at h1 h2 ⊢
    refine ⟨by omega, fun x hx => ?_⟩
    cases hx with
    | head => omega
    | tail _ hx => have := h2 x hx; omega

end Go.Proofs.Ytenmnbjhebmpjaa.Pv
