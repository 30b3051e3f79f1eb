/- Struct values whose nil slices are known to be nil; stored, they are the box's own. -/
import Derived.Test.YtflgoabdgibphaaPvZp
namespace Go.Proofs.Ytflgoabdgibphaa.Pv
open Go
set_option linter.unusedVariables false
set_option linter.unusedSimpArgs false

def nils0 : PV → PV
  | .sl .sh sz [] => .nils sz
  | p => p
def ownN : PV → PV
  | .nils sz => .sl .ow sz []
  | p => p

theorem ownN_rep {G : Gh} {w : World} {v : Value} {c : PV} (h : RepS G w v c) : RepO G w v (ownN c) ∧ ownB v (ownN c) = none := by
  unfold ownN
  split
  · rename_i sz
    have e : v = .slice none 0 0 := by cases h with | pl h => cases h; rfl
    subst e
    exact ⟨.ow none 0 sz [] (.sl0 none 0 sz) (fun h => by simp at h), rfl⟩
  · exact ⟨.sh h, ownB_sh h⟩
theorem ownN_lt {c : PV} {k : Nat} (h : c.lt k) : (ownN c).lt k := by unfold ownN; split <;> first | trivial | exact h

theorem zc1_nils {v : Value} {p : PV} (h : zc1 v p = true) : zc1 v (nils0 p) = true := by
  unfold nils0
  split
  · rename_i sz
    unfold zc1 at h
    split at h <;> first | rfl | (rename_i h'; cases h'; done) | cases h | (simp_all; done) | skip
    all_goals simp_all [zc1]
  · exact h
theorem zcs_nils : ∀ {vs : List Value} {ps : List PV}, zcs vs ps = true → zcs vs (ps.map nils0) = true
  | [], [], _ => rfl
  | v :: r, p :: q, h => by
    simp only [zcs, List.map_cons, Bool.and_eq_true] at h ⊢
    exact ⟨zc1_nils h.1, zcs_nils h.2⟩
  | [], _ :: _, h => by simp [zcs] at h
  | _ :: _, [], h => by simp [zcs] at h

def nilT (i : TI) : TI := ⟨i.desc, i.size, i.bytes, i.zero.map nils0⟩
def nilTT (tt : TT) : TT := tt.map fun x => (x.1, nilT x.2)
theorem tl_nilTT : ∀ (tt : TT) (t : Nat), tl (nilTT tt) t = (tl tt t).map nilT
  | [], _ => rfl
  | (k, v) :: r, t => by
    simp only [nilTT, List.map_cons, tl]
    cases Nat.beq k t with
    | true => rfl
    | false => exact tl_nilTT r t
theorem TabOK.nils {P : Program} {tt : TT} (ht : TabOK P tt) : TabOK P (nilTT tt) := by
  intro t i h
  rw [tl_nilTT, Option.map_eq_some_iff] at h
  obtain ⟨i0, h, rfl⟩ := h
  obtain ⟨h1, h2, info, z, h3, h4, h5, h6, h7⟩ := ht t i0 h
  exact ⟨h1, by simp only [nilT, List.length_map]; exact h2, info, z, h3, h4, h5, h6, zcs_nils h7⟩

section
variable {P : Program} {l : Option Nat} {tt : TT} {n m : Nat} {all : Array Oper} {rest : List Oper} {env : Env} {σ : Sto} {Q : Post} {d : Nat} {ty : TypeId} {pos : String} {after : Array Edge}

/-- A box is written; what is nil in it, is its own. -/
theorem op_storeN (ht : TabOK P tt) {t : TypeId} {x y : Operand} {i off : Nat} {ti : TI} {cs : List PV} {p : PV} (hx : opv tt env t x = .ptr i off) (hti : tl tt t = some ti)
    (hi : σ[i]? = some (.cells cs)) (hy : opv tt env t y = p) (hS : p.isS = true) (hn : p.cells.length = ti.size) (h1 : p.cells.all PV.one = true) (hoff : off + ti.size ≤ cs.length)
    (h : SatOps P l n m all rest env (σ.set i (.cells (putAt cs off (p.cells.map ownN)))) Q) : SatOps P l n m all (⟨none, .store t x y, ty, pos, after, none⟩ :: rest) env σ Q := by
  refine op_gen rfl (by simp) fun F G a w hs => ?_
  have hxo := opv_ok hs tt t x
  rw [hx] at hxo
  have ev := (hxo.toS rfl).ptrv
  have hyo := opv_ok hs tt t y
  have hyl := opv_lt hs tt t y
  rw [hy] at hyo hyl
  obtain ⟨k1, k2⟩ := cells_of_S (hyo.toS hS)
  obtain ⟨hK, hsp, hcell⟩ := hs.sto i _ hi
  have hst := hs.stolt i _ hi
  simp only [Ent.lt] at hst
  have hT := ht _ _ hti
  have hspB := hsp
  obtain ⟨⟨arr, T, fz, a1, a2, a3⟩, hshB, hnfB⟩ := hsp
  have hlen : (a.eval y).cells.toList.length = ti.size := by simp [k1, hn]
  have hthere : ∀ j, j < cs.length → (w.cell? ⟨G.bs i, j, none⟩).isSome = true := fun j hj => by
    obtain ⟨v, hv, _⟩ := hcell j cs[j] (by simp [hj])
    rw [hv]; rfl
  have hrun := run_storeCells_cells (P := P) (G.bs i) off (a.eval y).cells.toList 0 w (fun j hj => by rw [Nat.add_zero]; exact hthere _ (by omega)) (fun j hj => by rw [Nat.add_zero]; exact a3 _ (Nat.zero_le _) (by omega)) (fun v hv => by
    obtain ⟨j, hj, rfl⟩ := List.getElem_of_mem hv
    have hj' : j < p.cells.length := by simp at hj; omega
    have := k2 j (a.eval y).cells.toList[j] p.cells[j] (by simp at hj ⊢) (by simp [hj'])
    exact (RepO.one (.sh this) (List.all_eq_true.1 h1 _ (List.getElem_mem hj'))).1)
  rw [Nat.add_zero] at hrun
  obtain ⟨q1, q2⟩ := putAt_get cs off (p.cells.map ownN) (by rw [List.length_map]; omega)
  have hnew : ∀ j c, (putAt cs off (p.cells.map ownN))[j]? = some c → ∃ v, (w.setCells (G.bs i) off (a.eval y).cells.toList).cell? ⟨G.bs i, j, none⟩ = some v ∧ RepO G w v c ∧ ((off ≤ j ∧ j < off + ti.size ∧ ownB v c = none) ∨ (cs[j]? = some c ∧ w.cell? ⟨G.bs i, j, none⟩ = some v)) := by
    intro j c hc
    rw [q2] at hc
    split at hc
    · rename_i hj
      rw [List.length_map, hn] at hj
      rw [List.getElem?_map, Option.map_eq_some_iff] at hc
      obtain ⟨c0, hc, rfl⟩ := hc
      have hjl : j - off < (a.eval y).cells.toList.length := by omega
      have := World.cell?_setCells_in (G.bs i) (a.eval y).cells.toList off w (fun j hj => hthere _ (by omega)) (j - off) hjl
      rw [show off + (j - off) = j by omega] at this
      have hR := k2 (j - off) (a.eval y).cells.toList[j - off] c0 (by rw [Array.getElem_toList]; exact Array.getElem?_eq_getElem _) hc
      exact ⟨_, this, (ownN_rep hR).1, .inl ⟨hj.1, hj.2, (ownN_rep hR).2⟩⟩
    · rename_i hj
      rw [List.length_map, hn] at hj
      obtain ⟨v, hv, hR⟩ := hcell j c hc
      exact ⟨v, by rw [World.cell?_setCells_out _ _ _ _ _ (fun _ _ => by simp only; omega)]; exact hv, hR, .inr ⟨hc, hv⟩⟩
  obtain ⟨s1, s2, s3, s4⟩ := sc_same (G.bs i) (a.eval y).cells.toList off w
  have hfin := hs.boxSet (cs' := putAt cs off (p.cells.map ownN)) hi s1 (fun b hb => sc_other _ _ _ _ _ hb) (sc_spareB ⟨⟨arr, T, fz, a1, by rw [q1]; exact a2, fun j hj hk => a3 j hj (by omega)⟩, hshB, hnfB⟩ _ _ _) (by
      rw [ltAll_iff]; intro c hc
      obtain ⟨j, hj, rfl⟩ := List.getElem_of_mem hc
      have hc' := q2 j
      rw [List.getElem?_eq_getElem hj] at hc'
      split at hc'
      · rw [List.getElem?_map] at hc'
        obtain ⟨c0, h3, h4⟩ := Option.map_eq_some_iff.1 hc'.symm
        rw [← h4]
        exact ownN_lt (ltAll_iff.1 (cells_lt hyl) _ (List.mem_of_getElem? h3))
      · exact ltAll_iff.1 hst _ (List.mem_of_getElem? hc'.symm)) (fun j c hc => let ⟨v, h1, h2, _⟩ := hnew j c hc; ⟨v, h1, h2⟩) (fun j v c b hv hc hb => by
      obtain ⟨v', h1, _, h3⟩ := hnew j c hc
      rw [hv] at h1; cases h1
      rcases h3 with ⟨_, _, h3⟩ | ⟨h3, h4⟩
      · rw [h3] at hb; cases hb
      · have := ownAt_cell (env := env) (a := a) hi h3 h4 hb
        exact ⟨hs.fr _ b this, fun l' hl' => hs.uniq _ _ b hl' this⟩) (fun j j' v c v' c' b hv hc hb hv' hc' hb' => by
      obtain ⟨u, h1, _, h3⟩ := hnew j c hc
      obtain ⟨u', h1', _, h3'⟩ := hnew j' c' hc'
      rw [hv] at h1; cases h1
      rw [hv'] at h1'; cases h1'
      rcases h3 with ⟨_, _, h3⟩ | ⟨h3, h4⟩
      · rw [h3] at hb; cases hb
      · rcases h3' with ⟨_, _, h3'⟩ | ⟨h3', h4'⟩
        · rw [h3'] at hb'; cases hb'
        · have := hs.uniq _ _ b (ownAt_cell (env := env) (a := a) hi h3 h4 hb) (ownAt_cell (env := env) (a := a) hi h3' h4' hb')
          cases this; rfl)
  refine ⟨undef, _, G, env, _, .inr ⟨?_, rfl⟩, hfin, Evol.boxSet hs hi off _, h⟩
  have hsize : (a.eval y).cells.size = ti.size := by omega
  simp [execOp, ev, Instr.storeAt, Instr.sureAddr, storeVar, hT.rsize w, hsize, hrun]


theorem op_storeNX {τ ex : Sto} (ht : TabOK P tt) {t : TypeId} {x y : Operand} {k off : Nat} {ti : TI} {cs : List PV} {p : PV} (hx : opv tt env t x = .ptr (τ.length + k) off) (hti : tl tt t = some ti)
    (hi : ex[k]? = some (.cells cs)) (hy : opv tt env t y = p) (hS : p.isS = true) (hn : Nat.beq p.cells.length ti.size = true) (h1 : p.cells.all PV.one = true) (hoff : Nat.ble (off + ti.size) cs.length = true)
    (h : SatOps P l n m all rest env (τ ++ ex.set k (.cells (putAt cs off (p.cells.map ownN)))) Q) : SatOps P l n m all (⟨none, .store t x y, ty, pos, after, none⟩ :: rest) env (τ ++ ex) Q := by
  refine op_storeN ht hx hti ((getX k).trans hi) hy hS (Nat.eq_of_beq_eq_true hn) h1 (Nat.le_of_ble_eq_true hoff) ?_
  rw [setX]; exact h

/-- A call with a guard that lets it by. -/
theorem step_callg {fo : Operand} {args : Array Operand} {ats : Array TypeId} {f : FuncId} {ps : List PV} {p : PV} {j t : Nat} {want b : Bool} (hj : (all[j]?).bind (·.dst) = some t) (hb : look env t = .bool b) (hw : b = want)
    (hcal : Callable P f) (hc : SatCall P f ps σ fun x σ' => x = p ∧ σ' = σ) (hfo : fo = .func f) (hps : passL tt env args.toList ats.toList = ps) (hlen : Nat.ble args.size ats.size = true)
    (htup : ps.all (fun p => !p.isTup) = true) (hd : Nat.ble (d + 1) n = true) : StepC P l n m all env σ ⟨some d, .call ⟨.value fo, args, ats⟩, ty, pos, after, some (j, want)⟩ p := by
  refine ⟨fun env0 hag F G a w hs i K Q' hi hK => ?_⟩
  have hb0 : look env0 t = .bool b := (hag t (by simp [readsOf, hj])).trans hb
  have hag' : ∀ t ∈ args.toList.flatMap Operand.tmp1, look env0 t = look env t := fun t ht => hag t (by
    subst hfo
    simp only [readsOf, Op.operands, Call.operands]
    rw [Array.toList_append, List.flatMap_append]
    exact List.mem_append_left _ (List.mem_append_right _ ht))
  have hrule := op_callP (tt := tt) (l := l) (all := all) (rest := []) (n := n) (m := m) (d := d) (ty := ty) (pos := pos) (after := after) (env := env0) (Q := fun e env' σ' => e = .normal ∧ env' = (d, p) :: env0 ∧ σ' = σ) hcal hc hfo ((passL_agree _ _ hag').trans hps) hlen htup hd (ops_nil ⟨rfl, rfl, rfl⟩)
  have h1 := hrule.go F G a w hs
  unfold wpOpIn
  simp only [hi]
  rw [if_pos (by simp [Region.wanted, yielded_of hs hj hb0, hw])]
  simp only [wpListIn] at h1
  rw [if_pos (by simp [Region.wanted])] at h1
  refine wpIn_both (fun a' w' q => ?_) (fun e a' w' hne q => ?_) h1
  · obtain ⟨G', env', σ', ⟨_, rfl, rfl⟩, hs', hv⟩ := q
    exact hK _ _ _ hs' hv
  · obtain ⟨G', env', σ', ⟨he, _⟩, _⟩ := q
    exact absurd he hne

end
end Go.Proofs.Ytflgoabdgibphaa.Pv
