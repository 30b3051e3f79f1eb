/- Slices of slices and of texts. -/
import Derived.Test.YtflgoabdgibphaaPvZb
namespace Go.Proofs.Ytflgoabdgibphaa.Pv
open Go
set_option linter.unusedVariables false
set_option linter.unusedSimpArgs false

/-- A bound of a slice, or what stands for it where none is written. -/
def bndP (tt : TT) (env : Env) (o : Option Operand) (dflt : Int) : Option Int :=
  match o with
  | none => some dflt
  | some x => match opv tt env 0 x with
    | .int _ z => some z
    | _ => none

section
variable {P : Program} {tt : TT} {n m : Nat} {env : Env} {σ : Sto} {F : Nat → Prop} {G : Gh} {a : Act} {w : World}

theorem bnd_run (hs : Sim n m F G env σ a w) {o : Option Operand} {dflt z : Int} (h : bndP tt env o dflt = some z) : (o = none ∧ z = dflt) ∨ ∃ x k, o = some x ∧ a.eval x = .int k z := by
  unfold bndP at h
  split at h
  · cases h; exact .inl ⟨rfl, rfl⟩
  · rename_i x
    split at h
    · rename_i k z' hx
      cases h
      have := opv_ok hs tt 0 x
      rw [hx] at this
      exact .inr ⟨x, k, rfl, (this.toS rfl).int⟩
    · cases h

theorem bound_run {k : IntKind} {z : Int} {y : Nat} (code : BoundsCode) (h0 : 0 ≤ z) (h1 : z ≤ y) (w : World) : (Instr.sliceBound (.int k z) y code).run P w = .ok z.toNat w := by
  simp [Instr.sliceBound, asIntOf, h0, h1]

theorem bounds_run (hs : Sim n m F G env σ a w) {isS : Bool} {len cap : Nat} {lo hi : Option Operand} {l h : Int} (hl : bndP tt env lo 0 = some l) (hh : bndP tt env hi len = some h) (h0 : 0 ≤ l) (h1 : l ≤ h) (h2 : h ≤ cap) :
    (Instr.sliceBounds isS len cap (lo.map a.eval) (hi.map a.eval) none).run P w = .ok (l.toNat, h.toNat, cap) w := by
  rcases bnd_run hs hl with ⟨rfl, rfl⟩ | ⟨x, k, rfl, ex⟩ <;> rcases bnd_run hs hh with ⟨rfl, rfl⟩ | ⟨y, k', rfl, ey⟩
  · simp [Instr.sliceBounds]
  · simp [Instr.sliceBounds, ey, bound_run _ (show 0 ≤ h by omega) h2]
  · simp [Instr.sliceBounds, ex, bound_run _ h0 h1]
  · have : l ≤ ((h.toNat : Nat) : Int) := by omega
    simp [Instr.sliceBounds, ex, ey, bound_run _ (show 0 ≤ h by omega) h2, bound_run _ h0 this]

theorem bounds3_run (hs : Sim n m F G env σ a w) {isS : Bool} {len cap : Nat} {lo : Option Operand} {hi mx : Operand} {l h mm : Int} (hl : bndP tt env lo 0 = some l) (hh : bndP tt env (some hi) 0 = some h) (hm : bndP tt env (some mx) 0 = some mm) (h0 : 0 ≤ l) (h1 : l ≤ h) (h2 : h ≤ mm) (h3 : mm ≤ cap) :
    (Instr.sliceBounds isS len cap (lo.map a.eval) (some (a.eval hi)) (some (a.eval mx))).run P w = .ok (l.toNat, h.toNat, mm.toNat) w := by
  rcases bnd_run hs hh with ⟨e, _⟩ | ⟨y, k', e, ey⟩
  · cases e
  rcases bnd_run hs hm with ⟨e', _⟩ | ⟨z, k'', e', ez⟩
  · cases e'
  cases e; cases e'
  have q1 : h ≤ ((mm.toNat : Nat) : Int) := by omega
  have q2 : l ≤ ((h.toNat : Nat) : Int) := by omega
  rcases bnd_run hs hl with ⟨rfl, rfl⟩ | ⟨x, k, rfl, ex⟩
  · simp [Instr.sliceBounds, ey, ez, bound_run _ (show 0 ≤ mm by omega) h3, bound_run _ (show 0 ≤ h by omega) q1]
  · simp [Instr.sliceBounds, ex, ey, ez, bound_run _ (show 0 ≤ mm by omega) h3, bound_run _ (show 0 ≤ h by omega) q1, bound_run _ h0 q2]

/-- A slice of a slice in memory that does not turn. -/
theorem RepP.cut {K : Nat → Kind} {w : World} {ad : Option Addr} {len cap sz : Nat} {es : List PV} (h : RepP K w (.slice ad len cap) (.sl .sh sz es)) {l h' mm : Nat} (h1 : l ≤ h') (h2 : h' ≤ es.length) (h3 : h' ≤ mm) :
    RepP K w (.slice (if mm = l then ad else ad.map (·.add (l * sz))) (h' - l) (mm - l)) (.sl .sh sz ((es.drop l).take (h' - l))) := by
  by_cases h0 : h' - l = 0
  · rw [h0, List.take_zero]; exact .sl0 _ _ _
  · rw [if_neg (by omega)]
    cases h with
    | sl0 a c sz => simp at h2; omega
    | sl ad cap sz p es vs hs hK hp hc hsz hv hr =>
      simp only [Option.map_some]
      rw [add_eq hs]
      have hlen : ((es.drop l).take (h' - l)).length = h' - l := by simp; omega
      have hsub : ∀ e ∈ (es.drop l).take (h' - l), e.cells.length = sz := fun e he => hsz e (List.mem_of_mem_drop (List.mem_of_mem_take he))
      have hmul : l * sz + (h' - l) * sz ≤ es.length * sz := by rw [← Nat.add_mul]; exact Nat.mul_le_mul_right _ (by omega)
      have hmul2 : (h' - l) * sz ≤ es.length * sz := Nat.mul_le_mul_right _ (by omega)
      have key : ∀ j c, (flat ((es.drop l).take (h' - l)))[j]? = some c → (flat es)[l * sz + j]? = some c := by
        intro j c hc
        rw [flat_take (fun e he => hsz e (List.mem_of_mem_drop he)), flat_drop hsz] at hc
        rw [List.getElem?_take] at hc
        split at hc
        · rw [List.getElem?_drop] at hc; exact hc
        · cases hc
      have fin := RepP.sl (K := K) (w := w) ⟨ad.block, ad.off + l * sz, none⟩ (mm - l) sz p ((es.drop l).take (h' - l)) (fun j => vs (l * sz + j)) rfl hK (by rw [hlen]; simp only; omega) (by rw [hlen]; omega) hsub
        (fun j hj => by rw [hlen] at hj; have := hv (l * sz + j) (by omega); rw [← Nat.add_assoc] at this; exact this) (fun j c hc => hr _ c (key j c hc))
      rw [hlen] at fin
      exact fin

/-- What a slice expression yields: of a text; of elements that do not turn; of a box. -/
def sliceP (tt : TT) (env : Env) (t : TypeId) (x : Operand) (lo hi : Option Operand) : Option (Prop × PV) :=
  match tl tt t, opv tt env t x with
  | some ⟨.string, _, _, _⟩, .str s => (match bndP tt env lo 0, bndP tt env hi s.size with
    | some l, some h => some (0 ≤ l ∧ l ≤ h ∧ h ≤ s.size, .str (s.extract l.toNat h.toNat))
    | _, _ => none)
  | some ⟨.slice e, _, _, _⟩, .sl .sh sz es => (match bndP tt env lo 0, bndP tt env hi es.length, tl tt e with
    | some l, some h, some i => some (0 ≤ l ∧ l ≤ h ∧ h ≤ es.length ∧ i.size = sz, .sl .sh sz ((es.drop l.toNat).take (h.toNat - l.toNat)))
    | _, _, _ => none)
  | _, _ => none

theorem RepS.slcap {v : Value} {sz : Nat} {es : List PV} (h : RepS G w v (.sl .sh sz es)) : ∃ ad cap, v = .slice ad es.length cap ∧ es.length ≤ cap ∧ RepP G.K w (.slice ad es.length cap) (.sl .sh sz es) := by
  cases h with
  | pl h => cases h with
    | sl0 a cap sz => exact ⟨a, cap, rfl, Nat.zero_le _, .sl0 a cap sz⟩
    | sl ad cap sz p es vs hs hK hp hc hsz hv hr => exact ⟨some ad, cap, rfl, hc, .sl ad cap sz p es vs hs hK hp hc hsz hv hr⟩

theorem lk_slice {dd : Option Nat} {ty : TypeId} {pos : String} {after : Array Edge} {g : Option (Nat × Bool)} (ht : TabOK P tt) {t : TypeId} {x : Operand} {lo hi : Option Operand} {c : Prop} {p : PV} (hp : sliceP tt env t x lo hi = some (c, p)) (hc : c) :
    LookAt P n m env σ ⟨dd, .slice t x lo hi none, ty, pos, after, g⟩ p := by
  refine ⟨fun F G a w hs => ?_⟩
  have hxo := opv_ok hs tt t x
  unfold sliceP at hp
  split at hp
  · rename_i s1 b1 z1 s hT hx
    rw [hx] at hxo
    have ex := (hxo.toS rfl).str
    split at hp
    · rename_i l h hl hh
      cases hp
      obtain ⟨c1, c2, c3⟩ := hc
      have hb := bounds_run (P := P) hs (isS := false) (cap := s.size) hl hh c1 c2 (by omega)
      refine ⟨.string (s.extract l.toNat h.toNat), ?_, .inr (.inl (.pl (.str _))), trivial⟩
      have hu := (ht _ _ hT).rund w
      simp only [execOp, ex, Instr.sliceAt, Instr.slice, Sem.run_bind, hu, Result.andThen_ok, Option.map_none, Option.isSome_none, hb]
      simp [hb]
    · cases hp
  · rename_i e s1 b1 z1 sz es hT hx
    rw [hx] at hxo
    obtain ⟨ad, cap, ex, hcap, hR⟩ := RepS.slcap (hxo.toS rfl)
    split at hp
    · rename_i l h i hl hh hi'
      cases hp
      obtain ⟨c1, c2, c3, c4⟩ := hc
      have hb := bounds_run (P := P) hs (isS := true) (cap := cap) hl hh c1 c2 (by omega)
      refine ⟨.slice (if cap = l.toNat then ad else ad.map (·.add (l.toNat * sz))) (h.toNat - l.toNat) (cap - l.toNat), ?_, .inr (.inl (.pl (hR.cut (by omega) (by omega) (by omega)))), trivial⟩
      have hu := (ht _ _ hT).rund w
      have hz := (ht _ _ hi').rsize w
      simp only [execOp, ex, Instr.sliceAt, Instr.slice, Sem.run_bind, hu, Result.andThen_ok, Option.map_none, hb, hz, c4]
      simp
    · cases hp
  · cases hp

theorem lk_eql {dd : Option Nat} {ty : TypeId} {pos : String} {after : Array Edge} {g : Option (Nat × Bool)} (ht : TabOK P tt) {ok : List Nat} (hok : eqOKb P ok = true) {xT yT : TypeId} {x y : Operand} {i : TI} {fs : Array Field} {xs ys : List PV} {b : Bool} (hi : tl tt xT = some i) (hd : i.desc = .struct fs)
    (hx : opv tt env xT x = .agg xs) (hy : opv tt env yT y = .agg ys) (hin : ok.any (Nat.beq xT) = true) (he : eqPV tt ok 9 xT (.agg xs) (.agg ys) = some b) : LookAt P n m env σ ⟨dd, .binOp .eql xT x y yT, ty, pos, after, g⟩ (.bool b) :=
  lk_eqA (neq := false) ht hok hi hd hx hy hin he rfl
theorem lk_neq {dd : Option Nat} {ty : TypeId} {pos : String} {after : Array Edge} {g : Option (Nat × Bool)} (ht : TabOK P tt) {ok : List Nat} (hok : eqOKb P ok = true) {xT yT : TypeId} {x y : Operand} {i : TI} {fs : Array Field} {xs ys : List PV} {b : Bool} (hi : tl tt xT = some i) (hd : i.desc = .struct fs)
    (hx : opv tt env xT x = .agg xs) (hy : opv tt env yT y = .agg ys) (hin : ok.any (Nat.beq xT) = true) (he : eqPV tt ok 9 xT (.agg xs) (.agg ys) = some b) : LookAt P n m env σ ⟨dd, .binOp .neq xT x y yT, ty, pos, after, g⟩ (.bool (!b)) :=
  lk_eqA (neq := true) ht hok hi hd hx hy hin he rfl

end
end Go.Proofs.Ytflgoabdgibphaa.Pv
