/- Operations that make, read and write boxes; variables that are taken over. -/
import Derived.Test.YtflgoabdgibphaaPvH
namespace Go.Proofs.Ytflgoabdgibphaa.Pv
open Go
set_option linter.unusedVariables false
set_option linter.unusedSimpArgs false

/-- Zero cells of a variable: its slices are its own. -/
def own0 : PV → PV
  | .sl .sh sz [] => .sl .ow sz []
  | p => p

section
variable {P : Program} {l : Option Nat} {tt : TT} {n m : Nat} {all : Array Oper} {rest : List Oper} {env : Env} {σ : Sto} {Q : Post} {d : Nat} {ty : TypeId} {pos : String} {after : Array Edge}

theorem zc1_rep {G : Gh} {w : World} {v : Value} {p : PV} (h : zc1 v p = true) : RepO G w v (own0 p) ∧ ownB v (own0 p) = none ∧ (p = .dead ∨ RepP G.K w v p) := by
  unfold zc1 at h
  split at h
  · exact ⟨.sh (.pl (.bool _)), rfl, .inr (.bool _)⟩
  · simp only [Bool.and_eq_true, beq_iff_eq] at h; obtain ⟨rfl, rfl⟩ := h; exact ⟨.sh (.pl (.int _ _)), rfl, .inr (.int _ _)⟩
  · rename_i s s'
    simp only [Bool.and_eq_true, beq_iff_eq] at h
    have : s = s' := by
      obtain ⟨d1⟩ := s; obtain ⟨d2⟩ := s'
      obtain ⟨h1, h2⟩ := h
      have e1 : d1 = #[] := Array.eq_empty_of_size_eq_zero h1
      have e2 : d2 = #[] := Array.eq_empty_of_size_eq_zero h2
      rw [e1, e2]
    subst this
    exact ⟨.sh (.pl (.str _)), rfl, .inr (.str _)⟩
  · rename_i sz
    exact ⟨.ow none 0 sz [] (.sl0 none 0 sz) (fun h => by simp at h), rfl, .inr (.sl0 none 0 sz)⟩
  · rename_i sz; exact ⟨.sh (.pl (.nils sz)), rfl, .inr (.nils sz)⟩
  · exact ⟨.sh (.pl .nilptr), rfl, .inr .nilptr⟩
  · exact ⟨.sh (.pl .nilfn), rfl, .inr .nilfn⟩
  · exact ⟨.sh (.pl .nilif), rfl, .inr .nilif⟩
  · exact ⟨.dead _, ownB_dead _, .inl rfl⟩
  · cases h

theorem zcs_get : ∀ {vs : List Value} {ps : List PV}, zcs vs ps = true → vs.length = ps.length ∧ ∀ (j : Nat) v p, vs[j]? = some v → ps[j]? = some p → zc1 v p = true
  | [], [], _ => ⟨rfl, fun j v p h _ => by simp at h⟩
  | v :: r, p :: q, h => by
    simp only [zcs, Bool.and_eq_true] at h
    obtain ⟨h1, h2⟩ := zcs_get h.2
    refine ⟨by simp [h1], fun j v' p' hv hp => ?_⟩
    cases j with
    | zero => simp at hv hp; subst hv; subst hp; exact h.1
    | succ j => simp at hv hp; exact h2 j v' p' hv hp
  | [], _ :: _, h => by simp [zcs] at h
  | _ :: _, [], h => by simp [zcs] at h

theorem own0_lt {p : PV} {k : Nat} (h : p.lt k) : (own0 p).lt k := by unfold own0; split <;> first | trivial | exact h

theorem zcs_lt : ∀ {vs : List Value} {ps : List PV}, zcs vs ps = true → ∀ k, ltAll k ps
  | [], [], _, _ => trivial
  | v :: r, p :: q, h, k => by
    simp only [zcs, Bool.and_eq_true] at h
    refine ⟨?_, zcs_lt h.2 k⟩
    have := h.1
    unfold zc1 at this
    split at this <;> first | trivial | cases this
  | [], _ :: _, h, _ => by simp [zcs] at h
  | _ :: _, [], h, _ => by simp [zcs] at h

/-- A new variable. -/
theorem op_alloc (ht : TabOK P tt) {t : TypeId} {i : TI} (hi : tl tt t = some i) (hd : d < n)
    (h : SatOps P l n m all rest ((d, .ptr σ.length 0) :: env) (σ ++ [.cells (i.zero.map own0)]) Q) : SatOps P l n m all (⟨some d, .alloc t, ty, pos, after, none⟩ :: rest) env σ Q := by
  refine op_gen rfl (by simp) fun F G a w hs => ?_
  obtain ⟨z, hz, hzc⟩ := (ht _ _ hi).rzero w
  obtain ⟨hl, hc⟩ := zcs_get hzc
  have hs1 := hs.box z.cells t (i.zero.map own0) (by simp [← hl]) (by
      rw [ltAll_iff]; intro v hv
      obtain ⟨p, hp, rfl⟩ := List.mem_map.1 hv
      exact own0_lt (ltAll_iff.1 (zcs_lt hzc _) p hp)) (fun j v c hv hc' => by
      rw [List.getElem?_map, Option.map_eq_some_iff] at hc'
      obtain ⟨p, hp, rfl⟩ := hc'
      exact (zc1_rep (hc j v p (by simpa using hv) hp)).1) (.of_sh fun j v c hv hc' => by
      rw [List.getElem?_map, Option.map_eq_some_iff] at hc'
      obtain ⟨p, hp, rfl⟩ := hc'
      exact (zc1_rep (G := G) (w := w) (hc j v p (by simpa using hv) hp)).2.1)
  refine ⟨.pointer (some ⟨w.heap.size, 0, none⟩), _, _, _, _, .inl (by simp [execOp, Instr.alloc, hz, newVar, newRow]), hs1.setS hd (v := .pointer (some ⟨w.heap.size, 0, none⟩)) ?_ (by simp [PV.lt]), Evol.alloc hs _ _ _ fun i hi => upd_ne _ _ (by have := hs.floor; omega), h⟩
  have : RepS ⟨upd G.K w.heap.size (.box σ.length), upd G.bs σ.length ⟨w.heap.size, (t, z.cells.size), false⟩⟩ (w.alloc (.cells z.cells t)) (.pointer (some ⟨(upd G.bs σ.length ⟨w.heap.size, (t, z.cells.size), false⟩ σ.length).b, 0, none⟩)) (.ptr σ.length 0) := .ptr _ _
  rw [upd_same] at this
  exact this

theorem cells_of_S {G : Gh} {w : World} {v : Value} {p : PV} (h : RepS G w v p) : v.cells.size = p.cells.length ∧ ∀ (j : Nat) u c, v.cells[j]? = some u → p.cells[j]? = some c → RepS G w u c := by
  have one : ∀ {v : Value} {p : PV}, v.cells = #[v] → p.cells = [p] → RepS G w v p → v.cells.size = p.cells.length ∧ ∀ (j : Nat) u c, v.cells[j]? = some u → p.cells[j]? = some c → RepS G w u c := by
    intro v p e1 e2 h
    rw [e1, e2]
    refine ⟨rfl, fun j u c h1 h2 => ?_⟩
    cases j with
    | zero => simp at h1 h2; subst h1; subst h2; exact h
    | succ j => simp at h2
  cases h with
  | pl h => cases h with
    | agg vs cs hl h => exact ⟨hl, fun j u c h1 h2 => .pl (h j u c h1 h2)⟩
    | bool b => exact one rfl rfl (.pl (.bool b))
    | int k z => exact one rfl rfl (.pl (.int k z))
    | str s => exact one rfl rfl (.pl (.str s))
    | nilfn => exact one rfl rfl (.pl .nilfn)
    | nilif => exact one rfl rfl (.pl .nilif)
    | nilptr => exact one rfl rfl (.pl .nilptr)
    | nils sz => exact one rfl rfl (.pl (.nils sz))
    | sl0 a cap sz => exact one rfl rfl (.pl (.sl0 a cap sz))
    | sl ad cap sz p es vs hs hK hp hc hsz hv hr => exact one rfl rfl (.pl (.sl ad cap sz p es vs hs hK hp hc hsz hv hr))
  | agg vs cs hl h => exact ⟨hl, h⟩
  | ptr i off => exact one rfl rfl (.ptr i off)
  | yld i => exact one rfl rfl (.yld i)
  | bnil i T k h => exact one rfl rfl (.bnil i T k h)
  | tptr i T k h => exact one rfl rfl (.tptr i T k h)
  | bsl a i off sz len cap cap' h1 h2 h3 => exact one rfl rfl (.bsl a i off sz len cap cap' h1 h2 h3)
  | xsl a i off sz len cap h1 h3 => exact one rfl rfl (.xsl a i off sz len cap h1 h3)
  | cref ad p cs vs hs hK hp hv hr => exact one rfl rfl (.cref ad p cs vs hs hK hp hv hr)
  | fn f xs ys as bs hx hy ha hb => exact one rfl rfl (.fn f xs ys as bs hx hy ha hb)

theorem cells_lt {p : PV} {k : Nat} (h : p.lt k) : ltAll k p.cells := by
  cases p <;> first | exact h | exact ⟨h, trivial⟩

/-- A parameter's own variable. -/
theorem op_box {t : TypeId} {x : Operand} {p : PV} (hp : opv tt env t x = p) (hS : p.isS = true) (hd : d < n)
    (h : SatOps P l n m all rest ((d, .ptr σ.length 0) :: env) (σ ++ [.cells p.cells]) Q) : SatOps P l n m all (⟨some d, .box t x, ty, pos, after, none⟩ :: rest) env σ Q := by
  refine op_gen rfl (by simp) fun F G a w hs => ?_
  have hx := opv_ok hs tt t x
  have hxl := opv_lt hs tt t x
  rw [hp] at hx hxl
  obtain ⟨h1, h2⟩ := cells_of_S (hx.toS hS)
  have hs1 := hs.box (a.eval x).cells t p.cells (by omega) (cells_lt hxl) (fun j v c hv hc => .sh (h2 j v c hv hc)) (.of_sh fun j v c hv hc => ownB_sh (h2 j v c hv hc))
  refine ⟨.pointer (some ⟨w.heap.size, 0, none⟩), _, _, _, _, .inl (by simp [execOp, Instr.box, newVar, newRow]), hs1.setS hd (v := .pointer (some ⟨w.heap.size, 0, none⟩)) ?_ (by simp [PV.lt]), Evol.alloc hs _ _ _ fun i hi => upd_ne _ _ (by have := hs.floor; omega), h⟩
  have : RepS ⟨upd G.K w.heap.size (.box σ.length), upd G.bs σ.length ⟨w.heap.size, (t, (a.eval x).cells.size), false⟩⟩ (w.alloc (.cells (a.eval x).cells t)) (.pointer (some ⟨(upd G.bs σ.length ⟨w.heap.size, (t, (a.eval x).cells.size), false⟩ σ.length).b, 0, none⟩)) (.ptr σ.length 0) := .ptr _ _
  rw [upd_same] at this
  exact this

/-- A slice without elements, as a variable's first value: it is its own. -/
theorem op_nil {e : TI} (he : eti tt ty = some e) (hd : d < n) (h : SatOps P l n m all rest ((d, .sl .ow e.size []) :: env) σ Q) :
    SatOps P l n m all (⟨some d, .assign (.const (.slice none 0 0)), ty, pos, after, none⟩ :: rest) env σ Q := by
  refine op_gen rfl (by simp) fun F G a w hs => ?_
  exact ⟨.slice none 0 0, w, G, _, σ, .inl rfl, hs.set hd (.one (.ow none 0 e.size [] (.sl0 none 0 _) (fun h => by simp at h))) trivial
    (fun j b hb => by unfold ownSlot at hb; simp [ownB] at hb) (fun j1 j2 b hb => by unfold ownSlot at hb; simp [ownB] at hb), .refl _ _ _ _, h⟩

/-- What becomes of the one that is taken from: it may be read on, if its cells do not turn. -/
def left1 : PV → PV
  | .sl .ow sz es => .sl .sh sz es
  | _ => .dead

def PV.isOwn : PV → Bool
  | .sl .ow _ _ | .sl .ex _ _ => true
  | _ => false

theorem isOwn_slot {p : PV} (h : p.isOwn = true) (v : Value) (j : Nat) : ownSlot v p j = if j = 0 then ownB v p else none := by
  unfold ownSlot
  cases p <;> first | (cases h; done) | (cases v <;> rfl)

theorem left1_slot {p : PV} (h : p.isOwn = true) (v : Value) (j : Nat) : ownSlot v (left1 p) j = none := by
  cases p with
  | sl o sz es =>
    cases o <;> first | (cases h; done) | skip
    · unfold ownSlot left1; cases v <;> simp [ownB]
    · exact ownSlot_dead _ _
  | _ => cases h

theorem left1_wk {p : PV} (h : p.isOwn = true) : Wk (left1 p) p := by
  cases p with
  | sl o sz es => cases o <;> first | (cases h; done) | exact .inr (.inr ⟨_, _, rfl, rfl⟩) | exact .inl rfl
  | _ => cases h

/-- A holder gives what it has away. -/
theorem Sim.take {F : Nat → Prop} {G : Gh} {a : Act} {w : World} (h : Sim n m F G env σ a w) {t : Nat} {p : PV} (hp : look env t = p) (ho : p.isOwn = true) :
    Sim n m F G ((t, left1 p) :: env) σ a w ∧ RepO G w (a.tmps.getD t undef) p ∧ ∀ b, ownB (a.tmps.getD t undef) p = some b → ¬ F b ∧ ∀ l, ownAt G ((t, left1 p) :: env) σ a.tmps w l ≠ some b := by
  have hw : Sim n m F G ((t, left1 p) :: env) σ a w := h.weaken fun t' => by
    rw [look_cons]; split
    · rename_i e; subst e; rw [hp]; exact left1_wk ho
    · exact .inr (.inl rfl)
  have hr := h.rep t
  rw [hp] at hr
  refine ⟨hw, hr.toO (fun ps e => by subst e; cases ho), fun b hb => ?_⟩
  have h0 : ownAt G env σ a.tmps w (.slot t 0) = some b := by simp only [ownAt, hp, isOwn_slot ho, if_true]; exact hb
  refine ⟨h.fr _ b h0, fun l' hl => ?_⟩
  have h1 : ownAt G env σ a.tmps w l' = some b ∧ l' ≠ .slot t 0 := by
    cases l' with
    | slot t' j =>
      simp only [ownAt, look_cons] at hl ⊢
      by_cases e : t' = t
      · subst e; rw [if_pos rfl, left1_slot ho] at hl; cases hl
      · rw [if_neg e] at hl; exact ⟨hl, fun e' => e (by cases e'; rfl)⟩
    | cell i j => exact ⟨hl, fun e' => by cases e'⟩
  exact h1.2 (h.uniq _ _ b h1.1 h0)

/-- A variable's slice goes over to another slot. -/
theorem op_take {op : Op} {t : Nat} {p : PV} (hop : op = .assign (.tmp t) ∨ op = .move (.tmp t)) (hp : look env t = p) (ho : p.isOwn = true) (hd : d < n)
    (h : SatOps P l n m all rest ((d, p) :: (t, left1 p) :: env) σ Q) : SatOps P l n m all (⟨some d, op, ty, pos, after, none⟩ :: rest) env σ Q := by
  refine op_gen rfl (by rcases hop with rfl | rfl <;> simp) fun F G a w hs => ?_
  obtain ⟨h1, h2, h3⟩ := hs.take hp ho
  refine ⟨a.tmps.getD t undef, w, G, _, σ, .inl (by rcases hop with rfl | rfl <;> rfl), h1.set hd (.one h2) ?_ (fun j b hb => ?_) (fun j1 j2 b hb1 hb2 => ?_), .refl _ _ _ _, h⟩
  · cases p <;> first | trivial | cases ho
  · rw [isOwn_slot ho] at hb
    split at hb
    · exact ⟨(h3 b hb).1, fun l hl => absurd hl ((h3 b hb).2 l)⟩
    · cases hb
  · rw [isOwn_slot ho] at hb1 hb2
    split at hb1
    · split at hb2
      · omega
      · cases hb2
    · cases hb1

end
end Go.Proofs.Ytflgoabdgibphaa.Pv
