/- What comes in, with its bulk; and what plain values of a shape are. -/
import Derived.Test.YtflgoabdgibphaaPvZh
namespace Go.Proofs.Ytflgoabdgibphaa.Pv
open Go
set_option linter.unusedVariables false
set_option linter.unusedSimpArgs false

mutual
/-- How many values and letters there are. -/
def PV.wt : PV → Nat
  | .str s => s.size + 1
  | .sl _ _ es => wtAll es + 1
  | .agg cs => wtAll cs + 1
  | _ => 1
def wtAll : List PV → Nat
  | [] => 0
  | v :: r => v.wt + wtAll r
end

theorem wtAll_append : ∀ (a b : List PV), wtAll (a ++ b) = wtAll a + wtAll b
  | [], b => by simp [wtAll]
  | x :: a, b => by simp only [List.cons_append, wtAll, wtAll_append a b]; omega
theorem wt_pos (p : PV) : 1 ≤ p.wt := by cases p <;> simp [PV.wt]
theorem wt_len : ∀ (l : List PV), l.length ≤ wtAll l
  | [] => Nat.zero_le _
  | x :: l => by have := wt_pos x; have := wt_len l; simp only [List.length_cons, wtAll]; omega
theorem wt_mem : ∀ {l : List PV} {p : PV}, p ∈ l → p.wt ≤ wtAll l
  | x :: l, p, h => by
    simp only [wtAll]
    cases h with
    | head => omega
    | tail _ h => have := wt_mem h; omega
theorem wt_sum {α : Type} : ∀ (es : List PV) (ys : List α) (f : α → Nat), es.length = ys.length → (∀ (i : Nat) p y, es[i]? = some p → ys[i]? = some y → p.wt ≤ f y) → wtAll es ≤ (ys.map f).sum
  | [], _, _, _, _ => Nat.zero_le _
  | e :: es, [], _, h, _ => by simp at h
  | e :: es, y :: ys, f, h, hw => by
    have h1 := hw 0 e y rfl rfl
    have h2 := wt_sum es ys f (by simpa using h) fun i p y hp hy => hw (i + 1) p y (by simpa using hp) (by simpa using hy)
    simp only [wtAll, List.map_cons, List.sum_cons]; omega
theorem wt_mkV {e : Shp} {c : List PV} (h : HasC e c) : wtAll c ≤ (mkV e c).wt := by
  cases e with
  | bool => obtain ⟨b, rfl⟩ := h; simp [wtAll, mkV]
  | int k => obtain ⟨n, _, rfl⟩ := h; simp [wtAll, mkV]
  | str => obtain ⟨s, _, rfl⟩ := h; simp [wtAll, mkV]
  | sl sz e => obtain ⟨es, rfl, _⟩ := h; simp [wtAll, mkV]
  | struct fs => simp only [mkV, PV.wt]; omega

/-- What is asked of a bulk. -/
structure Bulk {H : Type} (B : DataW H → Nat) : Prop where
  lit : ∀ l, 1 ≤ B (.lit l)
  str : ∀ bytes, bytes.length + 1 ≤ B (.lit (.string bytes))
  nil : 1 ≤ B .nil
  sl : ∀ es sp, (es.map B).sum + 1 ≤ B (.slice es sp)
  agg : ∀ ps, (ps.map B).sum + 1 ≤ B (.agg ps)

section
variable {H : Type} {enc : TypeId × Value → H} {P : Program} {W : World}
open Go.ChangeShapes Go.WideShapes

theorem open_shW {B : DataW H → Nat} (hB : Bulk B) : ∀ (fuel : Nat) (sh : Shp) (t : TypeId) (cs : List Value) (x : DataW H × List MemPlace), DataW.trod enc P W 0 (fun _ => true) true fuel t cs = some x → shOK P sh t = true → ∃ ps, HasC sh ps ∧ RepC W cs ps ∧ (mkV sh ps).wt ≤ B x.1 := by
  intro fuel
  induction fuel with
  | zero => intro sh t cs x h; simp [DataW.trod] at h
  | succ fuel ih =>
    intro sh t cs x h hok
    cases sh with
    | bool =>
      simp only [shOK] at hok
      split at hok
      · rename_i ht
        obtain ⟨b, rfl, rfl⟩ := DataW.trod_bool ht h
        exact ⟨_, ⟨b, rfl⟩, .one (.bool b), hB.lit _⟩
      · cases hok
    | int k =>
      simp only [shOK] at hok
      split at hok
      · rename_i k' ht
        simp only [beq_iff_eq] at hok
        subst hok
        obtain ⟨n, rfl, rfl, hw⟩ := DataW.trod_int ht h
        exact ⟨_, ⟨n, hw, rfl⟩, .one (.int k n), hB.lit _⟩
      · cases hok
    | str =>
      simp only [shOK] at hok
      split at hok
      · rename_i ht
        obtain ⟨s, rfl, rfl, hs⟩ := DataW.trod_string ht h
        refine ⟨_, ⟨s, hs, rfl⟩, .one (.str s), ?_⟩
        have h1 := hB.str s.data.toList
        have h2 : s.data.toList.length = s.size := by rw [Array.length_toList]; rfl
        simp only [mkV, PV.wt]; omega
      · cases hok
    | sl sz e =>
      simp only [shOK] at hok
      split at hok
      · rename_i u ht
        simp only [Bool.and_eq_true, beq_iff_eq] at hok
        obtain ⟨hsz, hpos, hok⟩ := hok
        have hpos := Nat.le_of_ble_eq_true hpos
        rcases DataW.trod_slice ht h with ⟨rfl, rfl⟩ | ⟨a, len, cap, elems, rest, n, hn, rfl, rfl, _, hlc, hcm, hel, hget, _⟩
        · exact ⟨_, ⟨[], rfl, Nat.zero_le _, fun x hx => by cases hx⟩, .one (.sl0 none 0 sz), hB.nil⟩
        · cases hn
          have each : ∀ i, ∃ c : List PV, i < len → HasC e c ∧ c.length = sz ∧ ∃ vs : List Value, vs.length = sz ∧ RepC W vs c ∧ (∀ j, j < sz → W.cell? ((a.add (i * sz)).add j) = vs[j]?) ∧ ∀ y, elems[i]? = some y → (mkV e c).wt ≤ B y.1 := by
            intro i
            by_cases hi : i < len
            · have h1 := hget i hi
              rw [List.getElem?_eq_getElem (by omega), Option.bind_eq_some_iff] at h1
              obtain ⟨vs, h2, h3⟩ := h1
              obtain ⟨c, h4, h5, h7⟩ := ih e u vs _ h3 hok
              rw [hsz] at h2
              obtain ⟨_, hl, h6⟩ := World.cells?_some h2
              exact ⟨c, fun _ => ⟨h4, by rw [← h5.1, hl], vs, hl, h5, h6, fun y hy => by rw [List.getElem?_eq_getElem (by omega)] at hy; cases hy; exact h7⟩⟩
            · exact ⟨[], fun h => absurd h hi⟩
          obtain ⟨f, hf⟩ := Classical.axiomOfChoice each
          by_cases h0 : len = 0
          · subst h0; exact ⟨_, ⟨[], rfl, Nat.zero_le _, fun x hx => by cases hx⟩, .one (.sl0 (some a) cap sz), by have := hB.sl (elems.map (·.1)) (rest.map (·.1)); simp only [mkV, PV.wt, wtAll]; omega⟩
          · obtain ⟨es, hes⟩ : ∃ es, es = (List.range len).map fun i => mkV e (f i) := ⟨_, rfl⟩
            have hlen : es.length = len := by rw [hes]; simp
            have hcell : ∀ i, i < len → ∀ j, j < sz → ∃ v, W.cell? ⟨a.block, a.off + (i * sz + j), none⟩ = some v ∧ ∃ c, (f i)[j]? = some c ∧ RepP (K0 W) W v c := by
              intro i hi j hj
              obtain ⟨_, k2, vs, k3, k4, k5, _⟩ := hf i hi
              have k6 := k5 j hj
              have hv : vs[j]? = some vs[j] := List.getElem?_eq_getElem (by omega)
              rw [hv] at k6
              have hs := (cell_some k6).1
              have ha : a.spot = none := by
                by_cases e0 : i * sz = 0
                · by_cases e1 : j = 0
                  · simpa [Addr.add, e0, e1] using hs
                  · -- the first cell tells
                    have k7 := (hf i hi).2.2
                    obtain ⟨vs', q1, _, q3, _⟩ := k7
                    have q4 := q3 0 (by omega)
                    rw [List.getElem?_eq_getElem (by omega)] at q4
                    have := (cell_some q4).1
                    simpa [Addr.add, e0] using this
                · obtain ⟨vs', q1, _, q3, _⟩ := (hf 0 (by omega)).2.2
                  have q4 := q3 0 (by omega)
                  rw [List.getElem?_eq_getElem (by omega)] at q4
                  have := (cell_some q4).1
                  simpa [Addr.add] using this
              have hadd : (a.add (i * sz)).add j = ⟨a.block, a.off + (i * sz + j), none⟩ := by
                rw [add_eq ha (i * sz), add_eq rfl j, Nat.add_assoc]
              rw [hadd] at k6
              have hc : (f i)[j]? = some (f i)[j] := List.getElem?_eq_getElem (by omega)
              exact ⟨_, k6, _, hc, k4.2 j _ _ hv hc⟩
            obtain ⟨v0, hv0, _⟩ := hcell (len - 1) (by omega) (sz - 1) (by omega)
            obtain ⟨_, arr, T, fz, hh, hoff⟩ := cell_some hv0
            have hbd := (Array.getElem?_eq_some_iff.1 hoff).1
            simp only at hbd hh
            have ha : a.spot = none := by
              obtain ⟨vs', q1, _, q3, _⟩ := (hf 0 (by omega)).2.2
              have q4 := q3 0 (by omega)
              rw [List.getElem?_eq_getElem (by omega)] at q4
              have := (cell_some q4).1
              simpa [Addr.add] using this
            have hmul : (len - 1) * sz + (sz - 1) + 1 = len * sz := by
              have : len * sz = (len - 1) * sz + sz := by rw [← Nat.succ_mul]; congr 1; omega
              omega
            have hsz' : ∀ x ∈ es, x.cells.length = sz := by
              intro x hx
              rw [hes] at hx
              obtain ⟨i, hi, rfl⟩ := List.mem_map.1 hx
              have hi := List.mem_range.1 hi
              rw [(hf i hi).1.mk_cells]; exact (hf i hi).2.1
            refine ⟨[.sl .sh sz es], ⟨es, rfl, by omega, fun x hx => ?_⟩, .one ?_, ?_⟩
            · rw [hes] at hx
              obtain ⟨i, hi, rfl⟩ := List.mem_map.1 hx
              exact ⟨f i, rfl, (hf i (List.mem_range.1 hi)).1⟩
            · have split : ∀ j, j < len * sz → j / sz < len ∧ j % sz < sz ∧ j / sz * sz + j % sz = j := fun j hj =>
                ⟨(Nat.div_lt_iff_lt_mul (by omega)).2 hj, Nat.mod_lt _ (by omega), by rw [Nat.mul_comm]; exact Nat.div_add_mod j sz⟩
              have hflat : ∀ i j c, i < len → j < sz → (flat es)[i * sz + j]? = some c → (f i)[j]? = some c := by
                intro i j c hi hj hc
                have e1 : es[i]? = some (mkV e (f i)) := by rw [hes]; simp [hi]
                have := flat_get hsz' e1 j hj
                rw [this, (hf i hi).1.mk_cells] at hc; exact hc
              rw [← hlen]
              refine .sl a cap sz arr.size es (fun j => (W.cell? ⟨a.block, a.off + j, none⟩).getD undef) ha (K0_of hh) (by rw [hlen]; omega) (by omega) hsz' (fun j hj => ?_) (fun j c hc => ?_)
              · rw [hlen] at hj
                obtain ⟨h1, h2, h3⟩ := split j hj
                obtain ⟨v, hv, _⟩ := hcell _ h1 _ h2
                rw [h3] at hv
                rw [hv]; rfl
              · have hj : j < len * sz := by
                  have h1 := (List.getElem?_eq_some_iff.1 hc).1
                  rw [flat_length hsz', hlen] at h1; exact h1
                obtain ⟨h1, h2, h3⟩ := split j hj
                obtain ⟨v, hv, c', hc', hR⟩ := hcell _ h1 _ h2
                rw [h3] at hv
                rw [hv]
                have := hflat _ _ c h1 h2 (by rw [h3]; exact hc)
                rw [this] at hc'; cases hc'
                exact hR
            · have h1 := hB.sl (elems.map (·.1)) (rest.map (·.1))
              have h2 : wtAll es ≤ ((elems.map (·.1)).map B).sum := by
                rw [List.map_map]
                refine wt_sum es elems (fun y => B y.1) (by omega) fun i p y hp hy => ?_
                have hi : i < len := by have := (List.getElem?_eq_some_iff.1 hp).1; omega
                rw [hes] at hp
                simp [hi] at hp
                subst hp
                obtain ⟨_, _, _, _, _, _, k6⟩ := hf i hi
                exact k6 y hy
              simp only [mkV, PV.wt]; omega
      · cases hok
    | struct fs =>
      simp only [shOK] at hok
      split at hok
      · rename_i gs ht
        simp only [Bool.and_eq_true, beq_iff_eq] at hok
        obtain ⟨hok, hsz⟩ := hok
        obtain ⟨xs, n, hn, rfl, hlen, hxs, hf⟩ := DataW.trod_struct ht h
        cases hn
        have key : ∀ (fs : List Shp) (gs' : List Field) (off : Nat) (ys : List (DataW H × List MemPlace)), ys.length = gs'.length → shOKs P fs gs' off = true → (∀ (i : Nat) g, gs'[i]? = some g → DataW.trod enc P W 0 (fun _ => true) true fuel g.type ((cs.drop g.offset).take (P.cellsOf g.type)) = ys[i]?) →
            off ≤ offEnd P gs' off ∧ (offEnd P gs' off ≤ cs.length → ∃ ps, HasCs fs ps ∧ RepC W ((cs.drop off).take (offEnd P gs' off - off)) ps ∧ wtAll ps ≤ ((ys.map (·.1)).map B).sum) := by
          intro fs
          induction fs with
          | nil =>
            intro gs' off ys hyl h1 h2
            cases gs' with
            | nil => exact ⟨Nat.le_refl _, fun _ => ⟨[], rfl, ⟨by simp [offEnd], fun j v c hv => by simp [offEnd] at hv⟩, Nat.zero_le _⟩⟩
            | cons => simp [shOKs] at h1
          | cons f r ih2 =>
            intro gs' off ys hyl h1 h2
            cases gs' with
            | nil => simp [shOKs] at h1
            | cons g gr =>
              cases ys with
              | nil => simp at hyl
              | cons y yr =>
              simp only [shOKs, Bool.and_eq_true, beq_iff_eq] at h1
              obtain ⟨e1, e2, e3⟩ := h1
              obtain ⟨k1, k2⟩ := ih2 gr _ yr (by simpa using hyl) e3 fun i g' hg => h2 (i + 1) g' (by simpa using hg)
              simp only [offEnd]
              refine ⟨by omega, fun hle => ?_⟩
              obtain ⟨ps, h3, h4, h8⟩ := k2 hle
              have hx := h2 0 g rfl
              rw [List.getElem?_cons_zero] at hx
              rw [e1] at hx
              obtain ⟨qs, h5, h6, h7⟩ := ih f g.type _ y hx e2
              refine ⟨qs ++ ps, ⟨qs, ps, rfl, h5, h3⟩, ?_, by
                have h9 := wt_mkV h5
                rw [wtAll_append]; simp only [List.map_cons, List.sum_cons]; omega⟩
              have hcut : (cs.drop off).take (offEnd P gr (off + P.cellsOf g.type) - off) = (cs.drop off).take (P.cellsOf g.type) ++ (cs.drop (off + P.cellsOf g.type)).take (offEnd P gr (off + P.cellsOf g.type) - (off + P.cellsOf g.type)) := by
                rw [show offEnd P gr (off + P.cellsOf g.type) - off = P.cellsOf g.type + (offEnd P gr (off + P.cellsOf g.type) - (off + P.cellsOf g.type)) by omega, List.take_add, List.drop_drop]
              rw [hcut]
              refine ⟨by simp only [List.length_append]; rw [h6.1, h4.1], fun j v c hv hc => ?_⟩
              by_cases hj : j < qs.length
              · rw [List.getElem?_append_left (by rw [h6.1]; exact hj)] at hv
                rw [List.getElem?_append_left hj] at hc
                exact h6.2 j v c hv hc
              · rw [List.getElem?_append_right (by rw [h6.1]; omega)] at hv
                rw [List.getElem?_append_right (by omega)] at hc
                rw [h6.1] at hv
                exact h4.2 _ v c hv hc
        obtain ⟨_, k2⟩ := key fs gs.toList 0 xs (by simpa using hxs) hok fun i g hg => hf i g (by rw [← Array.getElem?_toList]; exact hg)
        obtain ⟨ps, h1, h2, h3⟩ := k2 (by rw [hlen, hsz]; exact Nat.le_refl _)
        have h4 := hB.agg (xs.map (·.1))
        refine ⟨ps, h1, ?_, by simp only [mkV, PV.wt]; omega⟩
        simp only [List.drop_zero, Nat.sub_zero] at h2
        rw [← hsz, ← hlen, List.take_length] at h2
        exact h2
      · cases hok

theorem open_valW {B : DataW H → Nat} (hB : Bulk B) {r : Reach} {b0 : Nat} {sh : Shp} {t : TypeId} {v : Value} {d : DataW H} {pl : List MemPlace} (hok : shOK P sh t = true) (hval : Value.okWide P W r b0 t v)
    (hd : DataW.Trod enc P W 0 (fun _ => true) true t v d pl) : ∃ c, HasC sh c ∧ RepP (K0 W) W v (mkV sh c) ∧ (mkV sh c).wt ≤ B d := by
  obtain ⟨fuel, hf⟩ := hd
  obtain ⟨c, h1, h2, h3⟩ := open_shW hB fuel sh t _ _ hf hok
  refine ⟨c, h1, ?_, h3⟩
  have one : ∀ p, v.cells = #[v] → c = [p] → RepP (K0 W) W v p := fun p e1 e2 => by
    rw [e1, e2] at h2
    exact h2.2 0 v p rfl rfl
  cases sh with
  | bool =>
    simp only [shOK] at hok
    split at hok
    · rename_i ht; obtain ⟨b, rfl⟩ := okWide_bool ht hval; obtain ⟨b', rfl⟩ := h1; exact one _ rfl rfl
    · cases hok
  | int k =>
    simp only [shOK] at hok
    split at hok
    · rename_i ht; obtain ⟨b, rfl⟩ := okWide_int ht hval; obtain ⟨n, _, rfl⟩ := h1; exact one _ rfl rfl
    · cases hok
  | str =>
    simp only [shOK] at hok
    split at hok
    · rename_i ht; obtain ⟨b, rfl⟩ := okWide_string ht hval; obtain ⟨n, _, rfl⟩ := h1; exact one _ rfl rfl
    · cases hok
  | sl sz e =>
    simp only [shOK] at hok
    split at hok
    · rename_i ht; obtain ⟨a, l, c', rfl⟩ := okWide_slice ht hval; obtain ⟨n, rfl, _⟩ := h1; exact one _ rfl rfl
    · cases hok
  | struct fs =>
    simp only [shOK] at hok
    split at hok
    · rename_i gs ht
      unfold Value.okWide at hval
      rw [ht] at hval
      obtain ⟨cs, rfl, _⟩ := hval
      have h2 : RepC W cs.toList c := h2
      exact .agg cs c (by simpa using h2.1) fun j v' c' hv hc => h2.2 j v' c' (by simpa using hv) hc
    · cases hok


end

theorem wf_InR {k : IntKind} {n : Int} (h : (Lit.int k n).wf = true) : InR k n := by
  cases k <;> simp [Lit.wf, IntKind.min, IntKind.max, IntKind.signed, IntKind.bits] at h <;> simp only [InR] <;> omega

/-- Elements of a shape are a row of like elements. -/
theorem elems_of {α : Type} {e : Shp} (enc : α → PV) (W : α → Prop) (hd : ∀ c, HasC e c → ∃ a, mkV e c = enc a ∧ W a) {es : List PV} (h : ∀ x ∈ es, ∃ c, x = mkV e c ∧ HasC e c) : ∃ xs : List α, es = xs.map enc ∧ ∀ a ∈ xs, W a := by
  induction es with
  | nil => exact ⟨[], rfl, fun a h => by cases h⟩
  | cons x r ih =>
    obtain ⟨xs, rfl, hxs⟩ := ih fun y hy => h y (List.mem_cons_of_mem _ hy)
    obtain ⟨c, rfl, hc⟩ := h x List.mem_cons_self
    obtain ⟨a, e1, e2⟩ := hd c hc
    refine ⟨a :: xs, by rw [e1]; rfl, fun b hb => ?_⟩
    cases hb with
    | head => exact e2
    | tail _ hb => exact hxs b hb

theorem dec_bool (c : List PV) (h : HasC .bool c) : ∃ a : Bool, mkV .bool c = .bool a ∧ True := by obtain ⟨b, rfl⟩ := h; exact ⟨b, rfl, trivial⟩
theorem dec_int {k : IntKind} (c : List PV) (h : HasC (.int k) c) : ∃ a : Int, mkV (.int k) c = .int k a ∧ InR k a := by obtain ⟨n, hn, rfl⟩ := h; exact ⟨n, rfl, wf_InR hn⟩
theorem dec_str (c : List PV) (h : HasC .str c) : ∃ a : ByteArray, mkV .str c = .str a ∧ a.size ≤ maxLen := by obtain ⟨s, hs, rfl⟩ := h; exact ⟨s, rfl, hs⟩
theorem dec_sl {α : Type} {sz : Nat} {e : Shp} (enc : α → PV) (W : α → Prop) (hd : ∀ c, HasC e c → ∃ a, mkV e c = enc a ∧ W a) (c : List PV) (h : HasC (.sl sz e) c) : ∃ xs : List α, mkV (.sl sz e) c = .sl .sh sz (xs.map enc) ∧ (xs.length ≤ maxLen ∧ ∀ a ∈ xs, W a) := by
  obtain ⟨es, rfl, hl, he⟩ := h
  obtain ⟨xs, rfl, hx⟩ := elems_of enc W hd he
  exact ⟨xs, rfl, by simpa using hl, hx⟩
/-- The cells of a part. -/
theorem cells_of_dec {e : Shp} {c : List PV} {p : PV} (h : HasC e c) (hp : mkV e c = p) : c = p.cells := by rw [← hp, h.mk_cells]

end Go.Proofs.Ytflgoabdgibphaa.Pv
