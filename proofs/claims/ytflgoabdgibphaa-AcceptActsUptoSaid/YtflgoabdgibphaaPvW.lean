/- What comes in: a reading of plain data is a plain value; the call of a law, from its contract. -/
import Derived.Test.YtflgoabdgibphaaPvV
import Derived.ChangeArms
import Derived.ChangeOld
import Derived.DataReads
import Derived.Below
namespace Go.Proofs.Ytflgoabdgibphaa.Pv
open Go
set_option linter.unusedVariables false
set_option linter.unusedSimpArgs false

/-- The shapes of what comes in. -/
inductive Shp where
  | bool
  | int (k : IntKind)
  | str
  | sl (sz : Nat) (e : Shp)
  | struct (fs : List Shp)

def mkV : Shp → List PV → PV
  | .struct _, cs => .agg cs
  | _, c :: _ => c
  | _, [] => .dead

mutual
/-- Cells of a shape. -/
def HasC : Shp → List PV → Prop
  | .bool, cs => ∃ b, cs = [.bool b]
  | .int k, cs => ∃ n, (Lit.int k n).wf = true ∧ cs = [.int k n]
  | .str, cs => ∃ s : ByteArray, s.size ≤ maxLen ∧ cs = [.str s]
  | .sl sz e, cs => ∃ es : List PV, cs = [.sl .sh sz es] ∧ es.length ≤ maxLen ∧ ∀ x ∈ es, ∃ c, x = mkV e c ∧ HasC e c
  | .struct fs, cs => HasCs fs cs
def HasCs : List Shp → List PV → Prop
  | [], cs => cs = []
  | f :: r, cs => ∃ a b, cs = a ++ b ∧ HasC f a ∧ HasCs r b
end

def cellsLen : Shp → Nat
  | .struct fs => cellsLens fs
  | _ => 1
where cellsLens : List Shp → Nat
  | [] => 0
  | f :: r => cellsLen f + cellsLens r

mutual
def shOK (P : Program) : Shp → TypeId → Bool
  | .bool, t => match P.underlying t with
    | some .bool => true
    | _ => false
  | .int k, t => match P.underlying t with
    | some (.int k') => k == k'
    | _ => false
  | .str, t => match P.underlying t with
    | some .string => true
    | _ => false
  | .sl sz e, t => match P.underlying t with
    | some (.slice u) => P.cellsOf u == sz && (Nat.ble 1 sz && shOK P e u)
    | _ => false
  | .struct fs, t => match P.underlying t with
    | some (.struct gs) => shOKs P fs gs.toList 0 && P.cellsOf t == offEnd P gs.toList 0
    | _ => false
def shOKs (P : Program) : List Shp → List Field → Nat → Bool
  | [], [], _ => true
  | f :: fs, g :: gs, off => g.offset == off && (shOK P f g.type && shOKs P fs gs (off + P.cellsOf g.type))
  | _, _, _ => false
def offEnd (P : Program) : List Field → Nat → Nat
  | [], off => off
  | g :: gs, off => offEnd P gs (off + P.cellsOf g.type)
end

/-- What lies in memory at the start. -/
def K0 (W : World) : Nat → Kind := fun b => match W.heap[b]? with
  | some (.cells arr _ _) => .imm arr.size
  | _ => .free

theorem K0_of {W : World} {b : Nat} {arr : Array Value} {T : TypeId} {fz : Nat × Nat} (h : W.heap[b]? = some (.cells arr T fz)) : K0 W b = .imm arr.size := by simp [K0, h]

theorem cell_some {W : World} {a : Addr} {v : Value} (h : W.cell? a = some v) : a.spot = none ∧ ∃ arr T fz, W.heap[a.block]? = some (.cells arr T fz) ∧ arr[a.off]? = some v := by
  unfold World.cell? at h
  split at h
  · rename_i arr T fz hh
    split at h
    · cases h
    · rename_i hs; exact ⟨by simpa using hs, arr, T, fz, hh, h⟩
  · cases h

section
variable {H : Type} {enc : TypeId × Value → H} {P : Program} {W : World}

def RepC (W : World) (cs : List Value) (ps : List PV) : Prop := cs.length = ps.length ∧ ∀ (j : Nat) v c, cs[j]? = some v → ps[j]? = some c → RepP (K0 W) W v c

theorem RepC.one {v : Value} {p : PV} (h : RepP (K0 W) W v p) : RepC W [v] [p] := ⟨rfl, fun j v' c hv hc => by
  cases j with
  | zero => simp at hv hc; subst hv; subst hc; exact h
  | succ j => simp at hv⟩

theorem HasC.mk_cells : ∀ {e : Shp} {c : List PV}, HasC e c → (mkV e c).cells = c := by
  intro e c h
  cases e with
  | bool => obtain ⟨b, rfl⟩ := h; rfl
  | int k => obtain ⟨n, _, rfl⟩ := h; rfl
  | str => obtain ⟨s, _, rfl⟩ := h; rfl
  | sl sz e => obtain ⟨es, rfl, _⟩ := h; rfl
  | struct fs => rfl

theorem open_sh : ∀ (fuel : Nat) (sh : Shp) (t : TypeId) (cs : List Value) (x : DataW H × List MemPlace), DataW.trod enc P W 0 (fun _ => true) true fuel t cs = some x → shOK P sh t = true → ∃ ps, HasC sh ps ∧ RepC W cs ps := by
  intro fuel
  induction fuel with
  | zero => intro sh t cs x h; simp [DataW.trod] at h
  | succ fuel ih =>
    intro sh t cs x h hok
    cases sh with
    | bool =>
      simp only [shOK] at hok
      split at hok
      · rename_i ht
        obtain ⟨b, rfl, _⟩ := DataW.trod_bool ht h
        exact ⟨_, ⟨b, rfl⟩, .one (.bool b)⟩
      · cases hok
    | int k =>
      simp only [shOK] at hok
      split at hok
      · rename_i k' ht
        simp only [beq_iff_eq] at hok
        subst hok
        obtain ⟨n, rfl, _, hw⟩ := DataW.trod_int ht h
        exact ⟨_, ⟨n, hw, rfl⟩, .one (.int k n)⟩
      · cases hok
    | str =>
      simp only [shOK] at hok
      split at hok
      · rename_i ht
        obtain ⟨s, rfl, _, hs⟩ := DataW.trod_string ht h
        exact ⟨_, ⟨s, hs, rfl⟩, .one (.str s)⟩
      · cases hok
    | sl sz e =>
      simp only [shOK] at hok
      split at hok
      · rename_i u ht
        simp only [Bool.and_eq_true, beq_iff_eq] at hok
        obtain ⟨hsz, hpos, hok⟩ := hok
        have hpos := Nat.le_of_ble_eq_true hpos
        rcases DataW.trod_slice ht h with ⟨rfl, _⟩ | ⟨a, len, cap, elems, rest, n, hn, rfl, _, _, hlc, hcm, hel, hget, _⟩
        · exact ⟨_, ⟨[], rfl, Nat.zero_le _, fun x hx => by cases hx⟩, .one (.sl0 none 0 sz)⟩
        · cases hn
          have each : ∀ i, ∃ c : List PV, i < len → HasC e c ∧ c.length = sz ∧ ∃ vs : List Value, vs.length = sz ∧ RepC W vs c ∧ ∀ j, j < sz → W.cell? ((a.add (i * sz)).add j) = vs[j]? := by
            intro i
            by_cases hi : i < len
            · have h1 := hget i hi
              rw [List.getElem?_eq_getElem (by omega), Option.bind_eq_some_iff] at h1
              obtain ⟨vs, h2, h3⟩ := h1
              obtain ⟨c, h4, h5⟩ := ih e u vs _ h3 hok
              rw [hsz] at h2
              obtain ⟨_, hl, h6⟩ := World.cells?_some h2
              exact ⟨c, fun _ => ⟨h4, by rw [← h5.1, hl], vs, hl, h5, h6⟩⟩
            · exact ⟨[], fun h => absurd h hi⟩
          obtain ⟨f, hf⟩ := Classical.axiomOfChoice each
          by_cases h0 : len = 0
          · subst h0; exact ⟨_, ⟨[], rfl, Nat.zero_le _, fun x hx => by cases hx⟩, .one (.sl0 (some a) cap sz)⟩
          · obtain ⟨es, hes⟩ : ∃ es, es = (List.range len).map fun i => mkV e (f i) := ⟨_, rfl⟩
            have hlen : es.length = len := by rw [hes]; simp
            have hcell : ∀ i, i < len → ∀ j, j < sz → ∃ v, W.cell? ⟨a.block, a.off + (i * sz + j), none⟩ = some v ∧ ∃ c, (f i)[j]? = some c ∧ RepP (K0 W) W v c := by
              intro i hi j hj
              obtain ⟨_, k2, vs, k3, k4, k5⟩ := hf i hi
              have k6 := k5 j hj
              have hv : vs[j]? = some vs[j] := List.getElem?_eq_getElem (by omega)
              rw [hv] at k6
              have hs := (cell_some k6).1
              have ha : a.spot = none := by
                by_cases e0 : i * sz = 0
                · by_cases e1 : j = 0
                  · simpa [Addr.add, e0, e1] using hs
                  · -- the first cell tells
                    have k7 := (hf i hi).2.2
                    obtain ⟨vs', q1, _, q3⟩ := k7
                    have q4 := q3 0 (by omega)
                    rw [List.getElem?_eq_getElem (by omega)] at q4
                    have := (cell_some q4).1
                    simpa [Addr.add, e0] using this
                · obtain ⟨vs', q1, _, q3⟩ := (hf 0 (by omega)).2.2
                  have q4 := q3 0 (by omega)
                  rw [List.getElem?_eq_getElem (by omega)] at q4
                  have := (cell_some q4).1
                  simpa [Addr.add] using this
              have hadd : (a.add (i * sz)).add j = ⟨a.block, a.off + (i * sz + j), none⟩ := by
                rw [add_eq ha (i * sz), add_eq rfl j, Nat.add_assoc]
              rw [hadd] at k6
              have hc : (f i)[j]? = some (f i)[j] := List.getElem?_eq_getElem (by omega)
              exact ⟨_, k6, _, hc, k4.2 j _ _ hv hc⟩
            obtain ⟨v0, hv0, _⟩ := hcell (len - 1) (by omega) (sz - 1) (by omega)
            obtain ⟨_, arr, T, fz, hh, hoff⟩ := cell_some hv0
            have hbd := (Array.getElem?_eq_some_iff.1 hoff).1
            simp only at hbd hh
            have ha : a.spot = none := by
              obtain ⟨vs', q1, _, q3⟩ := (hf 0 (by omega)).2.2
              have q4 := q3 0 (by omega)
              rw [List.getElem?_eq_getElem (by omega)] at q4
              have := (cell_some q4).1
              simpa [Addr.add] using this
            have hmul : (len - 1) * sz + (sz - 1) + 1 = len * sz := by
              have : len * sz = (len - 1) * sz + sz := by rw [← Nat.succ_mul]; congr 1; omega
              omega
            have hsz' : ∀ x ∈ es, x.cells.length = sz := by
              intro x hx
              rw [hes] at hx
              obtain ⟨i, hi, rfl⟩ := List.mem_map.1 hx
              have hi := List.mem_range.1 hi
              rw [(hf i hi).1.mk_cells]; exact (hf i hi).2.1
            refine ⟨[.sl .sh sz es], ⟨es, rfl, by omega, fun x hx => ?_⟩, .one ?_⟩
            · rw [hes] at hx
              obtain ⟨i, hi, rfl⟩ := List.mem_map.1 hx
              exact ⟨f i, rfl, (hf i (List.mem_range.1 hi)).1⟩
            · have split : ∀ j, j < len * sz → j / sz < len ∧ j % sz < sz ∧ j / sz * sz + j % sz = j := fun j hj =>
                ⟨(Nat.div_lt_iff_lt_mul (by omega)).2 hj, Nat.mod_lt _ (by omega), by rw [Nat.mul_comm]; exact Nat.div_add_mod j sz⟩
              have hflat : ∀ i j c, i < len → j < sz → (flat es)[i * sz + j]? = some c → (f i)[j]? = some c := by
                intro i j c hi hj hc
                have e1 : es[i]? = some (mkV e (f i)) := by rw [hes]; simp [hi]
                have := flat_get hsz' e1 j hj
                rw [this, (hf i hi).1.mk_cells] at hc; exact hc
              rw [← hlen]
              refine .sl a cap sz arr.size es (fun j => (W.cell? ⟨a.block, a.off + j, none⟩).getD undef) ha (K0_of hh) (by rw [hlen]; omega) (by omega) hsz' (fun j hj => ?_) (fun j c hc => ?_)
              · rw [hlen] at hj
                obtain ⟨h1, h2, h3⟩ := split j hj
                obtain ⟨v, hv, _⟩ := hcell _ h1 _ h2
                rw [h3] at hv
                rw [hv]; rfl
              · have hj : j < len * sz := by
                  have h1 := (List.getElem?_eq_some_iff.1 hc).1
                  rw [flat_length hsz', hlen] at h1; exact h1
                obtain ⟨h1, h2, h3⟩ := split j hj
                obtain ⟨v, hv, c', hc', hR⟩ := hcell _ h1 _ h2
                rw [h3] at hv
                rw [hv]
                have := hflat _ _ c h1 h2 (by rw [h3]; exact hc)
                rw [this] at hc'; cases hc'
                exact hR
      · cases hok
    | struct fs =>
      simp only [shOK] at hok
      split at hok
      · rename_i gs ht
        simp only [Bool.and_eq_true, beq_iff_eq] at hok
        obtain ⟨hok, hsz⟩ := hok
        obtain ⟨xs, n, hn, _, hlen, _, hf⟩ := DataW.trod_struct ht h
        cases hn
        have key : ∀ (fs : List Shp) (gs' : List Field) (off : Nat), shOKs P fs gs' off = true → (∀ g ∈ gs', ∃ x, DataW.trod enc P W 0 (fun _ => true) true fuel g.type ((cs.drop g.offset).take (P.cellsOf g.type)) = some x) →
            off ≤ offEnd P gs' off ∧ (offEnd P gs' off ≤ cs.length → ∃ ps, HasCs fs ps ∧ RepC W ((cs.drop off).take (offEnd P gs' off - off)) ps) := by
          intro fs
          induction fs with
          | nil =>
            intro gs' off h1 h2
            cases gs' with
            | nil => exact ⟨Nat.le_refl _, fun _ => ⟨[], rfl, by simp [offEnd], fun j v c hv => by simp [offEnd] at hv⟩⟩
            | cons => simp [shOKs] at h1
          | cons f r ih2 =>
            intro gs' off h1 h2
            cases gs' with
            | nil => simp [shOKs] at h1
            | cons g gr =>
              simp only [shOKs, Bool.and_eq_true, beq_iff_eq] at h1
              obtain ⟨e1, e2, e3⟩ := h1
              obtain ⟨k1, k2⟩ := ih2 gr _ e3 fun g' hg => h2 g' (List.mem_cons_of_mem _ hg)
              simp only [offEnd]
              refine ⟨by omega, fun hle => ?_⟩
              obtain ⟨ps, h3, h4⟩ := k2 hle
              obtain ⟨x, hx⟩ := h2 g List.mem_cons_self
              rw [e1] at hx
              obtain ⟨qs, h5, h6⟩ := ih f g.type _ x hx e2
              refine ⟨qs ++ ps, ⟨qs, ps, rfl, h5, h3⟩, ?_⟩
              have hcut : (cs.drop off).take (offEnd P gr (off + P.cellsOf g.type) - off) = (cs.drop off).take (P.cellsOf g.type) ++ (cs.drop (off + P.cellsOf g.type)).take (offEnd P gr (off + P.cellsOf g.type) - (off + P.cellsOf g.type)) := by
                rw [show offEnd P gr (off + P.cellsOf g.type) - off = P.cellsOf g.type + (offEnd P gr (off + P.cellsOf g.type) - (off + P.cellsOf g.type)) by omega, List.take_add, List.drop_drop]
              rw [hcut]
              refine ⟨by simp only [List.length_append]; rw [h6.1, h4.1], fun j v c hv hc => ?_⟩
              by_cases hj : j < qs.length
              · rw [List.getElem?_append_left (by rw [h6.1]; exact hj)] at hv
                rw [List.getElem?_append_left hj] at hc
                exact h6.2 j v c hv hc
              · rw [List.getElem?_append_right (by rw [h6.1]; omega)] at hv
                rw [List.getElem?_append_right (by omega)] at hc
                rw [h6.1] at hv
                exact h4.2 _ v c hv hc
        obtain ⟨_, k2⟩ := key fs gs.toList 0 hok fun g hg => by
          obtain ⟨i, hi, rfl⟩ := List.getElem_of_mem hg
          have := hf i gs.toList[i] (by rw [← Array.getElem?_toList]; exact List.getElem?_eq_getElem hi)
          have hxl : i < xs.length := by
            rename_i hxs _
            simp at hi; omega
          exact ⟨xs[i], by rw [this]; simp [hxl]⟩
        obtain ⟨ps, h1, h2⟩ := k2 (by rw [hlen, hsz]; exact Nat.le_refl _)
        refine ⟨ps, h1, ?_⟩
        simp only [List.drop_zero, Nat.sub_zero] at h2
        rw [← hsz, ← hlen, List.take_length] at h2
        exact h2
      · cases hok

end
end Go.Proofs.Ytflgoabdgibphaa.Pv
