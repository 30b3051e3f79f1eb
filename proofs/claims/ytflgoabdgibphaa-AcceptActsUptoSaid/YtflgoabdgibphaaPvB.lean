/- What stays when a world goes on; a slot that is set; a new block. -/
import Derived.Test.YtflgoabdgibphaaPvA
namespace Go.Proofs.Ytflgoabdgibphaa.Pv
open Go
set_option linter.unusedVariables false
set_option linter.unusedSimpArgs false

def ImmLe (K : Nat → Kind) (w : World) (K' : Nat → Kind) (w' : World) : Prop :=
  ∀ b p, K b = .imm p → ∃ p', p ≤ p' ∧ K' b = .imm p' ∧ ∀ j, j < p → w'.cell? ⟨b, j, none⟩ = w.cell? ⟨b, j, none⟩

theorem Evol.le {m : Nat} {F : Nat → Prop} {G G' : Gh} {w w' : World} (h : Evol m F G w G' w') : ImmLe G.K w G'.K w' := h.imm

theorem ImmLe.refl (K : Nat → Kind) (w : World) : ImmLe K w K w := fun _ p h => ⟨p, Nat.le_refl _, h, fun _ _ => rfl⟩

theorem flat_length {es : List PV} {sz : Nat} (h : ∀ e ∈ es, e.cells.length = sz) : (flat es).length = es.length * sz := by
  induction es with
  | nil => simp [flat]
  | cons e r ih =>
    simp only [flat, List.length_append, List.length_cons]
    rw [h e (by simp), ih (fun x hx => h x (by simp [hx])), Nat.succ_mul, Nat.add_comm]

theorem RepP.mono {K K' : Nat → Kind} {w w' : World} {v : Value} {p : PV} (h : RepP K w v p) (hle : ImmLe K w K' w') : RepP K' w' v p := by
  induction h with
  | bool b => exact .bool b
  | int k n => exact .int k n
  | str s => exact .str s
  | nilfn => exact .nilfn
  | nilif => exact .nilif
  | nilptr => exact .nilptr
  | nils sz => exact .nils sz
  | agg vs cs hl _ ih => exact .agg vs cs hl ih
  | sl0 a cap sz => exact .sl0 a cap sz
  | sl ad cap sz p es vs hs hK hp hc hsz hv _ ih =>
    obtain ⟨p', h1, h2, h3⟩ := hle _ _ hK
    exact .sl ad cap sz p' es vs hs h2 (by omega) hc hsz (fun j hj => by rw [h3 _ (by omega)]; exact hv j hj) ih

theorem RepS.mono {G G' : Gh} {w w' : World} {v : Value} {p : PV} {n : Nat} (h : RepS G w v p) (hle : ImmLe G.K w G'.K w') (hbs : ∀ i, i < n → G'.bs i = G.bs i) (hlt : p.lt n) : RepS G' w' v p := by
  induction h with
  | pl h => exact .pl (h.mono hle)
  | ptr i off => simp only [PV.lt] at hlt; rw [← hbs i hlt]; exact .ptr i off
  | yld i => simp only [PV.lt] at hlt; rw [← hbs i hlt]; exact .yld i
  | bnil i T k h => simp only [PV.lt] at hlt; rw [← hbs i hlt] at h; exact .bnil i T k h
  | tptr i T k h => simp only [PV.lt] at hlt; rw [← hbs i hlt] at h ⊢; exact .tptr i T k h
  | bsl a i off sz len cap cap' h1 h2 h3 => simp only [PV.lt] at hlt; rw [← hbs i hlt] at h3; exact .bsl a i off sz len cap cap' h1 h2 h3
  | xsl a i off sz len cap h1 h3 =>
    simp only [PV.lt] at hlt
    refine .xsl a i off sz len cap h1 ?_
    rcases hlt with e | hlt
    · exact .inl e
    · rw [hbs i hlt]; exact h3
  | cref ad p cs vs hs hK hp hv hr =>
    obtain ⟨p', h1, h2, h3⟩ := hle _ _ hK
    exact .cref ad p' cs vs hs h2 (by omega) (fun j hj => by rw [h3 _ (by omega)]; exact hv j hj) (fun j c hc => (hr j c hc).mono hle)
  | agg vs cs hl _ ih =>
    simp only [PV.lt] at hlt
    exact .agg vs cs hl fun j v c hv hc => ih j v c hv hc (ltAll_iff.1 hlt c (List.mem_of_getElem? hc))
  | fn f xs ys as bs hx hy _ _ ih1 ih2 =>
    simp only [PV.lt] at hlt
    exact .fn f xs ys as bs hx hy (fun j v c hv hc => ih1 j v c hv hc (ltAll_iff.1 hlt.1 c (List.mem_of_getElem? hc)))
      (fun j v c hv hc => ih2 j v c hv hc (ltAll_iff.1 hlt.2 c (List.mem_of_getElem? hc)))

theorem Spare.mono {w w' : World} {b lo hi : Nat} (h : Spare w b lo hi) (hb : w'.heap[b]? = w.heap[b]?) : Spare w' b lo hi := by
  obtain ⟨arr, T, fz, h1, h2, h3⟩ := h
  exact ⟨arr, T, fz, hb.trans h1, h2, fun j hj hk => by rw [World.frozen?_of_block (w := w) (a := ⟨b, j, none⟩) hb]; exact h3 j hj hk⟩

theorem shape_eq {w w' : World} {b : Nat} (hb : w'.heap[b]? = w.heap[b]?) : w'.shape? b = w.shape? b := by simp [World.shape?, hb]
theorem SpareB.mono {w w' : World} {x : Bx} {hi : Nat} (h : SpareB w x hi) (hb : w'.heap[x.b]? = w.heap[x.b]?) : SpareB w' x hi := ⟨h.sp.mono hb, (shape_eq hb).trans h.sh, fun hst j => by rw [World.frozen?_of_block (w := w) (a := ⟨x.b, j, none⟩) hb]; exact h.nf hst j⟩

theorem Spare.sub {w : World} {b lo hi lo' hi' : Nat} (h : Spare w b lo hi) (h1 : lo ≤ lo') (h2 : hi' ≤ hi) : Spare w b lo' hi' := by
  obtain ⟨arr, T, fz, k1, k2, k3⟩ := h
  exact ⟨arr, T, fz, k1, by omega, fun j hj hk => k3 j (by omega) (by omega)⟩

theorem Spare.lt {w : World} {b lo hi : Nat} (h : Spare w b lo hi) : b < w.heap.size := by
  obtain ⟨arr, T, fz, k1, _⟩ := h
  exact (Array.getElem?_eq_some_iff.1 k1).1

theorem cell_eq {w w' : World} {b j : Nat} (h : w'.heap[b]? = w.heap[b]?) : w'.cell? ⟨b, j, none⟩ = w.cell? ⟨b, j, none⟩ := World.cell?_of_block (w := w) (a := ⟨b, j, none⟩) h

theorem RepO.mono {G G' : Gh} {w w' : World} {v : Value} {p : PV} {n : Nat} (h : RepO G w v p) (hle : ImmLe G.K w G'.K w') (hbs : ∀ i, i < n → G'.bs i = G.bs i) (hlt : p.lt n)
    (hown : ∀ b, ownB v p = some b → w'.heap[b]? = w.heap[b]? ∧ G'.K b = G.K b) : RepO G' w' v p := by
  cases h with
  | dead => exact .dead _
  | sh h => exact .sh (h.mono hle hbs hlt)
  | ow a cap sz es h ho =>
    refine .ow a cap sz es (h.mono hle) fun hlt' => ?_
    obtain ⟨ad, rfl, h1, h2, h3⟩ := ho hlt'
    obtain ⟨e1, e2⟩ := hown ad.block (by simp [ownB, hlt'])
    exact ⟨ad, rfl, h1, e2.trans h2, h3.mono e1⟩
  | ex0 a sz => exact .ex0 a sz
  | ex b cap sz es vs hK hc h0 hsp hsz hv hr =>
    obtain ⟨e1, e2⟩ := hown b (by simp [ownB, h0])
    exact .ex b cap sz es vs (e2.trans hK) hc h0 (hsp.mono e1) hsz (fun j hj => (cell_eq e1).trans (hv j hj)) (fun j c hc' => (hr j c hc').mono hle)

theorem Rep.mono {G G' : Gh} {w w' : World} {v : Value} {p : PV} {n : Nat} (h : Rep G w v p) (hle : ImmLe G.K w G'.K w') (hbs : ∀ i, i < n → G'.bs i = G.bs i) (hlt : p.lt n)
    (hown : ∀ j b, ownSlot v p j = some b → w'.heap[b]? = w.heap[b]? ∧ G'.K b = G.K b) : Rep G' w' v p := by
  cases h with
  | one h =>
    refine .one (h.mono hle hbs hlt fun b hb => hown 0 b ?_)
    unfold ownSlot
    cases p <;> first | (cases v <;> simp_all [ownB]; done) | simpa using hb
  | tup vs ps hl h =>
    simp only [PV.lt] at hlt
    exact .tup vs ps hl fun j v c hv hc => (h j v c hv hc).mono hle hbs (ltAll_iff.1 hlt c (List.mem_of_getElem? hc)) fun b hb => hown j b (by simp [ownSlot, hv, hc, hb])

theorem ownB_sh {G : Gh} {w : World} {v : Value} {p : PV} (h : RepS G w v p) : ownB v p = none := by
  cases h with
  | pl h => cases h <;> first | rfl | (rename_i a _ _; cases a <;> rfl)
  | bsl a => cases a <;> rfl
  | xsl a => cases a <;> rfl
  | _ => rfl

theorem ownSlot_sh {G : Gh} {w : World} {v : Value} {p : PV} (h : RepS G w v p) (j : Nat) : ownSlot v p j = none := by
  have h0 := ownB_sh h
  unfold ownSlot
  split
  · cases h with
    | pl h => cases h
  · split
    · exact h0
    · rfl

/-- The readings that may be shared. -/
def PV.isS : PV → Bool
  | .dead | .tup _ | .sl .ow _ _ | .sl .ex _ _ => false
  | _ => true

theorem RepO.toS {G : Gh} {w : World} {v : Value} {p : PV} (h : RepO G w v p) (hp : p.isS = true) : RepS G w v p := by
  cases h with
  | sh h => exact h
  | _ => cases hp
theorem Rep.toS {G : Gh} {w : World} {v : Value} {p : PV} (h : Rep G w v p) (hp : p.isS = true) : RepS G w v p := by
  cases h with
  | one h => exact h.toS hp
  | tup => cases hp
theorem Rep.toO {G : Gh} {w : World} {v : Value} {p : PV} (h : Rep G w v p) (hp : ∀ ps, p ≠ .tup ps) : RepO G w v p := by
  cases h with
  | one h => exact h
  | tup => exact absurd rfl (hp _)

section
variable {G : Gh} {w : World} {v : Value}
theorem RepS.bool {b : Bool} (h : RepS G w v (.bool b)) : v = .bool b := by cases h with | pl h => cases h; rfl
theorem RepS.int {k : IntKind} {n : Int} (h : RepS G w v (.int k n)) : v = .int k n := by cases h with | pl h => cases h; rfl
theorem RepS.str {s : ByteArray} (h : RepS G w v (.str s)) : v = .string s := by cases h with | pl h => cases h; rfl
theorem RepS.nilfn (h : RepS G w v .nilfn) : v = .nilFunc := by cases h with | pl h => cases h; rfl
theorem RepS.nilif (h : RepS G w v .nilif) : v = .nilIface := by cases h with | pl h => cases h; rfl
theorem RepS.ptrv {i off : Nat} (h : RepS G w v (.ptr i off)) : v = .pointer (some ⟨G.bs i, off, none⟩) := by
  cases h with
  | pl h => cases h
  | ptr => rfl
theorem RepS.bslv {i off sz len cap : Nat} (h : RepS G w v (.bsl i off sz len cap)) : ∃ a cap', v = .slice a len cap' ∧ len ≤ cap ∧ cap ≤ cap' ∧ (cap = 0 ∨ a = some ⟨G.bs i, off, none⟩) := by
  cases h with
  | pl h => cases h
  | bsl _ _ _ _ _ _ _ h1 h2 h3 => exact ⟨_, _, rfl, h1, h2, h3⟩
theorem RepS.xslv {i off sz len cap : Nat} (h : RepS G w v (.xsl i off sz len cap)) : ∃ a, v = .slice a len cap ∧ len ≤ cap ∧ (cap = 0 ∨ (a = some ⟨G.bs i, off, none⟩ ∧ (G.bs i).st = false)) := by
  cases h with
  | pl h => cases h
  | xsl _ _ _ _ _ _ h1 h3 => exact ⟨_, rfl, h1, h3⟩
theorem RepS.slv {sz : Nat} {es : List PV} (h : RepS G w v (.sl .sh sz es)) : RepP G.K w v (.sl .sh sz es) := by cases h with | pl h => exact h
theorem RepS.crefv {cs : List PV} (h : RepS G w v (.cref cs)) : ∃ (ad : Addr) (p : Nat) (vs : Nat → Value), v = .pointer (some ad) ∧ ad.spot = none ∧ G.K ad.block = .imm p ∧ ad.off + cs.length ≤ p ∧
    (∀ j, j < cs.length → w.cell? ⟨ad.block, ad.off + j, none⟩ = some (vs j)) ∧ ∀ j c, cs[j]? = some c → RepP G.K w (vs j) c := by
  cases h with
  | pl h => cases h
  | cref ad p cs vs hs hK hp hv hr => exact ⟨ad, p, vs, rfl, hs, hK, hp, hv, hr⟩
theorem RepS.aggv {cs : List PV} (h : RepS G w v (.agg cs)) : ∃ vs : Array Value, v = .agg vs ∧ vs.size = cs.length ∧ ∀ (j : Nat) v c, vs[j]? = some v → cs[j]? = some c → RepS G w v c := by
  cases h with
  | pl h => cases h with
    | agg vs cs hl h => exact ⟨vs, rfl, hl, fun j v c h1 h2 => .pl (h j v c h1 h2)⟩
  | agg vs cs hl h => exact ⟨vs, rfl, hl, h⟩
theorem RepS.fnv {f : Fn} {as bs : List PV} (h : RepS G w v (.fn f as bs)) : ∃ xs ys : Array Value, v = .func f xs ys ∧ xs.size = as.length ∧ ys.size = bs.length ∧
    (∀ (j : Nat) v c, xs[j]? = some v → as[j]? = some c → RepS G w v c) ∧ ∀ (j : Nat) v c, ys[j]? = some v → bs[j]? = some c → RepS G w v c := by
  cases h with
  | pl h => cases h
  | fn f xs ys as bs hx hy ha hb => exact ⟨xs, ys, rfl, hx, hy, ha, hb⟩
theorem Rep.tupv {ps : List PV} (h : Rep G w v (.tup ps)) : ∃ vs : Array Value, v = .tuple vs ∧ vs.size = ps.length ∧ ∀ (j : Nat) v c, vs[j]? = some v → ps[j]? = some c → RepO G w v c := by
  cases h with
  | one h => cases h with
    | sh h => cases h with | pl h => cases h
  | tup vs ps hl h => exact ⟨vs, rfl, hl, h⟩
/-- A slice that does not turn, by its cells. -/
theorem RepP.slv {K : Nat → Kind} {sz : Nat} {es : List PV} (h : RepP K w v (.sl .sh sz es)) : ∃ a cap, v = .slice a es.length cap ∧ (es = [] ∨ ∃ (ad : Addr) (p : Nat) (vs : Nat → Value), a = some ad ∧ ad.spot = none ∧ K ad.block = .imm p ∧
    ad.off + es.length * sz ≤ p ∧ es.length ≤ cap ∧ (∀ e ∈ es, e.cells.length = sz) ∧ (∀ j, j < es.length * sz → w.cell? ⟨ad.block, ad.off + j, none⟩ = some (vs j)) ∧ ∀ j c, (flat es)[j]? = some c → RepP K w (vs j) c) := by
  cases h with
  | sl0 a cap sz => exact ⟨a, cap, rfl, .inl rfl⟩
  | sl ad cap sz p es vs hs hK hp hc hsz hv hr => exact ⟨some ad, cap, rfl, .inr ⟨ad, p, vs, rfl, hs, hK, hp, hc, hsz, hv, hr⟩⟩
end

theorem RepP.lt {K : Nat → Kind} {w : World} {v : Value} {p : PV} (h : RepP K w v p) (n : Nat) : p.lt n := by
  induction h with
  | agg us ds hl' _ ih =>
    simp only [PV.lt]; rw [ltAll_iff]; intro v' hv'
    obtain ⟨k, hk, rfl⟩ := List.getElem_of_mem hv'
    exact ih k us[k] ds[k] (by simp) (by simp [hk])
  | _ => trivial
theorem RepS.notup {G : Gh} {w : World} {v : Value} {ps : List PV} (h : RepS G w v (.tup ps)) : False := by cases h with | pl h => cases h
theorem RepS.nodead {G : Gh} {w : World} {v : Value} (h : RepS G w v .dead) : False := by cases h with | pl h => cases h

theorem ownSlot_dead (v : Value) (j : Nat) : ownSlot v .dead j = none := by
  unfold ownSlot; cases v <;> simp [ownB]

theorem look_cons (d : Nat) (p : PV) (env : Env) (t : Nat) : look ((d, p) :: env) t = if t = d then p else look env t := by
  simp only [look]
  by_cases h : t = d
  · simp [h]
  · rw [if_neg h]
    have : Nat.beq d t = false := by
      cases hb : Nat.beq d t with
      | false => rfl
      | true => exact absurd (Nat.eq_of_beq_eq_true hb).symm h
    simp [this]

theorem getD_put {a : Act} {d t : Nat} {v : Value} (hd : d < a.tmps.size) : (a.put (some d) v).tmps.getD t undef = if t = d then v else a.tmps.getD t undef := by
  simp only [Act.put]
  by_cases h : t = d
  · subst h; simp [hd]
  · rw [if_neg h]
    simp [Array.getElem?_setIfInBounds_ne (Ne.symm h)]

theorem Marks.mono {K K' : Nat → Kind} {w w' : World} : ∀ {l : List Deferred}, Marks K w l → (∀ d ∈ l, ∀ b, d.target = .collected b → w'.heap[b]? = w.heap[b]? ∧ K' b = K b) → Marks K' w' l
  | [], _, _ => trivial
  | d :: r, h, hs => by
    obtain ⟨⟨b, rfl, h1, h2, h3⟩, h4⟩ := h
    obtain ⟨e1, e2⟩ := hs _ List.mem_cons_self b rfl
    exact ⟨⟨b, rfl, e2.trans h1, e1.trans h2, h3⟩, h4.mono fun d' hd' => hs d' (by simp [hd'])⟩

section
variable {n m : Nat} {F : Nat → Prop} {G : Gh} {env : Env} {σ : Sto} {a : Act} {w : World}

/-- A slot is set. -/
theorem Sim.set (h : Sim n m F G env σ a w) {d : Nat} {v : Value} {p : PV} (hd : d < n) (hv : Rep G w v p) (hlt : p.lt σ.length)
    (hF : ∀ j b, ownSlot v p j = some b → ¬ F b ∧ ∀ l, ownAt G env σ a.tmps w l = some b → ∃ j', l = .slot d j')
    (hi : ∀ j1 j2 b, ownSlot v p j1 = some b → ownSlot v p j2 = some b → j1 = j2) : Sim n m F G ((d, p) :: env) σ (a.put (some d) v) w := by
  have hsz : d < a.tmps.size := by rw [h.size]; exact hd
  have key : ∀ l b, ownAt G ((d, p) :: env) σ (a.put (some d) v).tmps w l = some b → (∃ j, l = .slot d j ∧ ownSlot v p j = some b) ∨ (ownAt G env σ a.tmps w l = some b ∧ ∀ j, l ≠ .slot d j) := by
    intro l b hl
    cases l with
    | slot t j =>
      simp only [ownAt, getD_put hsz, look_cons] at hl
      by_cases e : t = d
      · subst e; simp only [if_true] at hl; exact .inl ⟨j, rfl, hl⟩
      · simp only [if_neg e] at hl; exact .inr ⟨hl, fun j' hj => e (by cases hj; rfl)⟩
    | cell i j => exact .inr ⟨hl, fun j' hj => by cases hj⟩
  refine ⟨by simpa [Act.put] using h.size, fun t => ?_, fun t => ?_, h.sto, h.stolt, h.kfree, h.inj, fun l1 l2 b h1 h2 => ?_, fun l b hl => ?_, h.frlt, h.marks, h.markF, h.floor⟩
  · rw [getD_put hsz, look_cons]; split
    · exact hv
    · exact h.rep t
  · rw [look_cons]; split
    · exact hlt
    · exact h.envlt t
  · rcases key l1 b h1 with ⟨j1, rfl, e1⟩ | ⟨e1, n1⟩ <;> rcases key l2 b h2 with ⟨j2, rfl, e2⟩ | ⟨e2, n2⟩
    · rw [hi j1 j2 b e1 e2]
    · obtain ⟨j', hj'⟩ := (hF j1 b e1).2 l2 e2; exact absurd hj' (n2 j')
    · obtain ⟨j', hj'⟩ := (hF j2 b e2).2 l1 e1; exact absurd hj' (n1 j')
    · exact h.uniq l1 l2 b e1 e2
  · rcases key l b hl with ⟨j, rfl, e⟩ | ⟨e, _⟩
    · exact (hF j b e).1
    · exact h.fr l b e

/-- A slot is set to a shared value. -/
theorem Sim.setS (h : Sim n m F G env σ a w) {d : Nat} {v : Value} {p : PV} (hd : d < n) (hv : RepS G w v p) (hlt : p.lt σ.length) :
    Sim n m F G ((d, p) :: env) σ (a.put (some d) v) w :=
  h.set hd (.one (.sh hv)) hlt (fun j b hb => by rw [ownSlot_sh hv] at hb; cases hb) (fun j1 _ b hb => by rw [ownSlot_sh hv] at hb; cases hb)

theorem Sim.setDead (h : Sim n m F G env σ a w) {d : Nat} (v : Value) (hd : d < n) : Sim n m F G ((d, .dead) :: env) σ (a.put (some d) v) w :=
  h.set hd (.one (.dead v)) trivial (fun j b hb => by rw [ownSlot_dead] at hb; cases hb) (fun j1 _ b hb => by rw [ownSlot_dead] at hb; cases hb)

/-- A weaker reading: nothing; the same; or what was one's own, as shared. -/
def Wk (p' p : PV) : Prop := p' = .dead ∨ p' = p ∨ ∃ sz es, p = .sl .ow sz es ∧ p' = .sl .sh sz es

theorem Wk.rep {p p' : PV} (h : Wk p' p) {v : Value} (hr : Rep G w v p) : Rep G w v p' := by
  rcases h with rfl | rfl | ⟨sz, es, rfl, rfl⟩
  · exact .one (.dead _)
  · exact hr
  · have := hr.toO (by simp)
    cases this with
    | sh h => cases h with | pl h => cases h
    | ow a cap sz es h _ => exact .one (.sh (.pl h))

theorem Wk.lt {p p' : PV} (h : Wk p' p) {k : Nat} (hr : p.lt k) : p'.lt k := by
  rcases h with rfl | rfl | ⟨sz, es, rfl, rfl⟩
  · trivial
  · exact hr
  · trivial

theorem Wk.own {p p' : PV} (h : Wk p' p) (v : Value) (j b : Nat) (ho : ownSlot v p' j = some b) : p' = p := by
  rcases h with rfl | rfl | ⟨sz, es, rfl, rfl⟩
  · rw [ownSlot_dead] at ho; cases ho
  · rfl
  · exfalso; unfold ownSlot at ho; cases v <;> simp [ownB] at ho

/-- Slots may be forgotten. -/
theorem Sim.weaken (h : Sim n m F G env σ a w) {env' : Env} (he : ∀ t, Wk (look env' t) (look env t)) : Sim n m F G env' σ a w := by
  have key : ∀ l b, ownAt G env' σ a.tmps w l = some b → ownAt G env σ a.tmps w l = some b := by
    intro l b hl
    cases l with
    | slot t j =>
      simp only [ownAt] at hl ⊢
      rw [← (he t).own _ _ _ hl]; exact hl
    | cell i j => exact hl
  exact ⟨h.size, fun t => (he t).rep (h.rep t), fun t => (he t).lt (h.envlt t), h.sto, h.stolt, h.kfree, h.inj, fun l1 l2 b h1 h2 => h.uniq l1 l2 b (key _ _ h1) (key _ _ h2), fun l b hl => h.fr l b (key l b hl), h.frlt, h.marks, h.markF, h.floor⟩

/-- The world goes on: what is owned, the boxes, the marks and the frame's blocks lie as they lay. -/
theorem Sim.world (h : Sim n m F G env σ a w) {G' : Gh} {w' : World} (hle : ImmLe G.K w G'.K w') (hbs : ∀ i, i < σ.length → G'.bs i = G.bs i) (hsz : w.heap.size ≤ w'.heap.size)
    (hsame : ∀ b, b < w.heap.size → w'.heap[b]? = w.heap[b]? ∧ G'.K b = G.K b) (hk : ∀ b, w.heap.size ≤ b → G'.K b ≠ .free → b < w'.heap.size) : Sim n m F G' env σ a w' := by
  have hblk : ∀ b k, G.K b = k → k ≠ .free → w'.heap[b]? = w.heap[b]? ∧ G'.K b = G.K b := fun b k e hne => hsame b (h.kfree b (by rw [e]; exact hne))
  have hcell : ∀ i cs, σ[i]? = some (.cells cs) → w'.heap[(G.bs i).b]? = w.heap[(G.bs i).b]? ∧ G'.K (G.bs i) = G.K (G.bs i) ∧ G'.bs i = G.bs i := by
    intro i cs hi
    have h1 := h.sto i _ hi
    have := hblk (G.bs i) _ h1.1 (by simp)
    exact ⟨this.1, this.2, hbs i (List.getElem?_eq_some_iff.1 hi).1⟩
  have kB : ∀ v p b, RepO G w v p → ownB v p = some b → b < w.heap.size := by
    intro v p b hr hb
    cases hr with
    | dead => simp [ownB] at hb
    | sh hr => rw [ownB_sh hr] at hb; cases hb
    | ow a cap sz es hr ho =>
      cases a with
      | none => simp [ownB] at hb
      | some ad =>
        simp only [ownB] at hb
        split at hb
        · rename_i hlt
          obtain ⟨ad', e, _, _, h4⟩ := ho hlt
          cases e; cases hb; exact h4.lt
        · cases hb
    | ex0 a sz => cases a <;> simp [ownB] at hb
    | ex b' cap sz es vs hK hc h0 hsp hsz hv hr =>
      simp only [ownB, h0, if_true] at hb; cases hb; exact hsp.lt
  have kS : ∀ v p j b, Rep G w v p → ownSlot v p j = some b → b < w.heap.size := by
    intro v p j b hr hb
    cases hr with
    | one hr =>
      unfold ownSlot at hb
      split at hb
      · rename_i ps vs
        cases hr with
        | sh hr => cases hr with | pl hr => cases hr
      · split at hb
        · exact kB _ _ _ hr hb
        · cases hb
    | tup vs ps hl hr =>
      simp only [ownSlot] at hb
      split at hb
      · rename_i v' p' hv hp; exact kB _ _ _ (hr j _ _ hv hp) hb
      · cases hb
  have key : ∀ l, ownAt G' env σ a.tmps w' l = ownAt G env σ a.tmps w l := by
    intro l
    cases l with
    | slot t j => rfl
    | cell i j =>
      simp only [ownAt]
      cases hi : σ[i]? with
      | none => rfl
      | some e =>
        cases e with
        | cells cs =>
          obtain ⟨e1, _, e3⟩ := hcell i cs hi
          simp only [e3, cell_eq e1]
        | _ => rfl
  refine ⟨h.size, fun t => (h.rep t).mono hle hbs (h.envlt t) fun j b hb => hsame b (kS _ _ _ _ (h.rep t) hb), h.envlt, fun i e hi => ?_, h.stolt, fun b hb => ?_, fun i e hi hc => ?_, fun l1 l2 b h1 h2 => ?_, fun l b hl => ?_, fun b hb => Nat.lt_of_lt_of_le (h.frlt b hb) hsz, ?_, h.markF, h.floor⟩
  · have h1 := h.sto i e hi
    cases e with
    | cells cs =>
      obtain ⟨e1, e2, e3⟩ := hcell i cs hi
      obtain ⟨h2, h3, h4⟩ := h1
      refine ⟨by rw [e3, e2]; exact h2, by rw [e3]; exact h3.mono e1, fun j c hc => ?_⟩
      obtain ⟨v, hv, hr⟩ := h4 j c hc
      refine ⟨v, by rw [e3, cell_eq e1]; exact hv, hr.mono hle hbs ?_ fun b hb => hsame b (kB _ _ _ hr hb)⟩
      have := h.stolt i _ hi
      simp only [Ent.lt] at this
      exact ltAll_iff.1 this c (List.mem_of_getElem? hc)
    | gone => trivial
    | loop st pend r env0 =>
      obtain ⟨h2, h3, h4⟩ := h1
      have hb := hblk _ _ h2 (by simp)
      have e3 := hbs i (List.getElem?_eq_some_iff.1 hi).1
      exact ⟨by rw [e3, hb.2]; exact h2, by rw [e3, hb.1]; exact h3, fun t => (h4 t).imp_right fun hr => hr.mono hle hbs (h.stolt i _ hi t)⟩
  · by_cases hlt : b < w.heap.size
    · exact Nat.lt_of_lt_of_le hlt hsz
    · exact hk b (by omega) hb
  · rw [hbs i (List.getElem?_eq_some_iff.1 hi).1]; exact h.inj i e hi hc
  · rw [key] at h1 h2; exact h.uniq l1 l2 b h1 h2
  · rw [key] at hl; exact h.fr l b hl
  · refine h.marks.mono fun d hd b hb => hsame b ?_
    have hm := h.marks
    clear h key hcell hblk
    revert hm hd
    generalize a.defers = l
    intro hd hm
    induction l with
    | nil => cases hd
    | cons d' r ih =>
      obtain ⟨⟨b', e1, _, e3, _⟩, hm'⟩ := hm
      cases hd with
      | head => subst e1; cases hb; exact (Array.getElem?_eq_some_iff.1 e3).1
      | tail _ hd => exact ih hd hm'

end
end Go.Proofs.Ytflgoabdgibphaa.Pv
