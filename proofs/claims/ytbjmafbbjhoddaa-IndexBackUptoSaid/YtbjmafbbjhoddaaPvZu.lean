/- Builders of texts: a box with its own address and a row of bytes of its own; the text of the row. -/
import Derived.Test.YtbjmafbbjhoddaaPvM3
import Derived.Lib.Builder
import Derived.Lib.UnsafeStr
namespace Go.Proofs.Ytbjmafbbjhoddaa.Pv
open Go
set_option linter.unusedVariables false
set_option linter.unusedSimpArgs false

section
variable {n m : Nat} {F : Fr} {G : Gh} {env : Env} {σ : Sto} {a : Act} {w : World}

theorem RepS.bnilv {v : Value} {i T k : Nat} (h : RepS G w v (.bnil i T k)) : v = .pointer none ∧ (G.bs i).ty = (T, k) := by cases h with | pl h => cases h | bnil _ _ _ h => exact ⟨rfl, h⟩
theorem RepS.tptrv {v : Value} {i T k : Nat} (h : RepS G w v (.tptr i T k)) : v = .pointer (some ⟨G.bs i, 0, none⟩) ∧ (G.bs i).ty = (T, k) := by cases h with | pl h => cases h | tptr _ _ _ h => exact ⟨rfl, h⟩
theorem RepS.tslv {v : Value} {i e k len cap : Nat} (h : RepS G w v (.tsl i e k len cap)) : v = .slice (some ⟨G.bs i, 0, none⟩) len cap ∧ (G.bs i).ty = (e, k) := by cases h with | pl h => cases h | tsl _ _ _ _ _ h => exact ⟨rfl, h⟩

theorem Sim.reread (h : Sim n m F G env σ a w) {i : Nat} {cs cs' : List PV} (hi : σ[i]? = some (.cells cs)) (hl : cs'.length = cs.length) (hlt : ltAll σ.length cs')
    (hr : ∀ (j : Nat) c v, cs'[j]? = some c → w.cell? ⟨G.bs i, j, none⟩ = some v → cs[j]? = some c ∨ (RepO G w v c ∧ ownB v c = none)) : Sim n m F G env (σ.set i (.cells cs')) a w := by
  obtain ⟨hK, hsp, hcell⟩ := h.sto i _ hi
  refine h.boxSet hi rfl (fun _ _ => rfl) (by rw [hl]; exact hsp) hlt (fun j c hc => ?_) (fun j v c b hv hc hb => ?_) (fun j j' v c v' c' b hv hc hb hv' hc' hb' => ?_)
  · have hj : j < cs.length := by have := (List.getElem?_eq_some_iff.1 hc).1; omega
    obtain ⟨v, h1, h2⟩ := hcell j cs[j] (by simp [hj])
    rcases hr j c v hc h1 with e | ⟨e, _⟩
    · rw [List.getElem?_eq_getElem hj] at e; cases e; exact ⟨v, h1, h2⟩
    · exact ⟨v, h1, e⟩
  · rcases hr j c v hc hv with e | ⟨_, e⟩
    · have := ownAt_cell (env := env) (a := a) hi e hv hb
      exact ⟨h.fr _ b this, fun l' hl' => h.uniq _ _ b hl' this⟩
    · rw [e] at hb; cases hb
  · rcases hr j c v hc hv with e | ⟨_, e⟩
    · rcases hr j' c' v' hc' hv' with e' | ⟨_, e'⟩
      · have h1 := h.uniq _ _ b (ownAt_cell (env := env) (a := a) hi e hv hb) (ownAt_cell (env := env) (a := a) hi e' hv' hb')
        cases h1; rfl
      · rw [e'] at hb'; cases hb'
    · rw [e] at hb; cases hb

theorem Sim.world3 (h : Sim n m F G env σ a w) {w' : World} (hle : ImmLe G.K w G.K w') (hsz : w'.heap.size = w.heap.size)
    (hown : ∀ l b, ownAt G env σ a.tmps w l = some b → w'.heap[b]? = w.heap[b]?)
    (hbox : ∀ (i : Nat) e, σ[i]? = some e → e ≠ .gone → w'.heap[(G.bs i).b]? = w.heap[(G.bs i).b]?) (hkeep : ∀ b, G.K b = .keep → w'.heap[b]? = w.heap[b]?) : Sim n m F G env σ a w' := by
  have hcell : ∀ i cs, σ[i]? = some (.cells cs) → w'.heap[(G.bs i).b]? = w.heap[(G.bs i).b]? := fun i cs hi => hbox i _ hi (by simp)
  have key : ∀ l, ownAt G env σ a.tmps w' l = ownAt G env σ a.tmps w l := by
    intro l
    cases l with
    | slot t j => rfl
    | cell i j =>
      simp only [ownAt]
      cases hi : σ[i]? with
      | none => rfl
      | some e => cases e with
        | cells cs => simp only [cell_eq (hcell i cs hi)]
        | _ => rfl
  refine ⟨h.size, fun t => (h.rep t).mono hle (fun _ _ => rfl) (h.envlt t) fun j b hb => ⟨hown (.slot t j) b hb, rfl⟩, h.envlt, fun i e hi => ?_, h.stolt, fun b hb => by rw [hsz]; exact h.kfree b hb, h.inj, fun l1 l2 b h1 h2 => ?_, fun l b hl => ?_, fun b hb => by rw [hsz]; exact h.frlt b hb, ?_, h.markF, h.floor⟩
  · have h1 := h.sto i e hi
    cases e with
    | cells cs =>
      have e1 := hcell i cs hi
      obtain ⟨h2, h3, h4⟩ := h1
      refine ⟨h2, h3.mono e1, fun j c hc => ?_⟩
      obtain ⟨v, hv, hr⟩ := h4 j c hc
      refine ⟨v, (cell_eq e1).trans hv, hr.mono (n := σ.length) hle (fun _ _ => rfl) ?_ fun b hb => ⟨hown (.cell i j) b (ownAt_cell hi hc hv hb), rfl⟩⟩
      have := h.stolt i _ hi
      simp only [Ent.lt] at this
      exact ltAll_iff.1 this c (List.mem_of_getElem? hc)
    | gone => trivial
    | loop rdy pend r env0 =>
      obtain ⟨h2, h3, h4⟩ := h1
      have hb := hbox i _ hi (by simp)
      exact ⟨h2, hb.trans h3, fun t => (h4 t).imp_right fun hr => hr.mono (n := σ.length) hle (fun _ _ => rfl) (h.stolt i _ hi t)⟩
  · rw [key] at h1 h2; exact h.uniq l1 l2 b h1 h2
  · rw [key] at hl; exact h.fr l b hl
  · refine h.marks.mono fun d hd b hb => ⟨hkeep b ?_, rfl⟩
    exact (h.marks.kind d hd b hb).2.1

theorem Sim.adopt (h : Sim n m F G env σ a w) {b : Nat} {ty : Nat × Nat} {cs : List PV} (hK : G.K b = .own) (hno : ∀ l, ownAt G env σ a.tmps w l ≠ some b) (hF : ¬ F b) (hsp : Spare w b 0 cs.length) (hsh : w.shape? b = some ty)
    (hlt : ltAll σ.length cs) (hc : ∀ (j : Nat) c, cs[j]? = some c → ∃ v, w.cell? ⟨b, j, none⟩ = some v ∧ RepP G.K w v c) :
    Sim n m F ⟨upd G.K b (.box σ.length), upd G.bs σ.length ⟨b, ty, true⟩⟩ env (σ ++ [.cells cs]) a w ∧ Evol m F G w ⟨upd G.K b (.box σ.length), upd G.bs σ.length ⟨b, ty, true⟩⟩ w := by
  have hle : ImmLe G.K w (upd G.K b (.box σ.length)) w := fun x p hx => ⟨p, ⟨Nat.le_refl _, rfl⟩, by rw [upd_ne _ _ fun e => by rw [e, hK] at hx; cases hx]; exact hx, fun _ _ => rfl⟩
  have hbs : ∀ i, i < σ.length → upd G.bs σ.length ⟨b, ty, true⟩ i = G.bs i := fun i hi => upd_ne _ _ (by omega)
  have hkne : ∀ i e, σ[i]? = some e → e ≠ .gone → (G.bs i).b ≠ b := fun i e hi hne eb => by
    have h1 := h.sto i e hi
    cases e with
    | cells cs => have := h1.1; rw [eb, hK] at this; cases this
    | gone => exact hne rfl
    | loop _ _ _ _ => have := h1.1; rw [eb, hK] at this; cases this
  have hget : ∀ i e, (σ ++ [Ent.cells cs])[i]? = some e → (i < σ.length ∧ σ[i]? = some e) ∨ (i = σ.length ∧ e = .cells cs) := by
    intro i e hi
    by_cases hlt : i < σ.length
    · rw [List.getElem?_append_left hlt] at hi; exact .inl ⟨hlt, hi⟩
    · rw [List.getElem?_append_right (by omega)] at hi
      cases hk : i - σ.length with
      | zero => rw [hk] at hi; simp at hi; exact .inr ⟨by omega, hi.symm⟩
      | succ k => rw [hk] at hi; simp at hi
  have plno : ∀ {K : Nat → Kind} {v : Value} {c : PV}, RepP K w v c → ownB v c = none := fun {K v c} hr => ownB_sh (G := ⟨K, G.bs⟩) (.pl hr)
  have key : ∀ l x, ownAt ⟨upd G.K b (.box σ.length), upd G.bs σ.length ⟨b, ty, true⟩⟩ env (σ ++ [.cells cs]) a.tmps w l = some x → ownAt G env σ a.tmps w l = some x := by
    intro l x hl
    cases l with
    | slot t j => exact hl
    | cell i j =>
      simp only [ownAt] at hl ⊢
      cases hi : (σ ++ [Ent.cells cs])[i]? with
      | none => rw [hi] at hl; cases hl
      | some e =>
        rw [hi] at hl
        rcases hget i e hi with ⟨hlt', hi'⟩ | ⟨rfl, rfl⟩
        · rw [hi']; rw [hbs i hlt'] at hl; exact hl
        · simp only [upd_same] at hl
          split at hl
          · rename_i c v hc' hv
            obtain ⟨v', h1, h2⟩ := hc j c hc'
            rw [h1] at hv; cases hv
            rw [plno h2] at hl; cases hl
          · cases hl
  refine ⟨⟨h.size, fun t => ?_, fun t => ?_, fun i e hi => ?_, fun i e hi => ?_, fun x hx => ?_, fun i e hi hcl => ?_, fun l1 l2 x g1 g2 => h.uniq l1 l2 x (key l1 x g1) (key l2 x g2), fun l x hl => h.fr l x (key l x hl), h.frlt, ?_, h.markF, by simp; have := h.floor; omega⟩,
    ⟨rfl, rfl, rfl, Nat.le_refl _, fun x hx => ⟨rfl, upd_ne _ _ fun e => hF (e ▸ hx)⟩, hle, fun i hi => hbs i (by have := h.floor; omega)⟩⟩
  · exact (h.rep t).mono hle hbs (h.envlt t) fun j x hx => ⟨rfl, upd_ne _ _ fun e => hno (.slot t j) (e ▸ hx)⟩
  · rw [List.length_append]; exact lt_mono (by simp) (h.envlt t)
  · rcases hget i e hi with ⟨hlt', hi'⟩ | ⟨rfl, rfl⟩
    · have h2 := h.sto i e hi'
      cases e with
      | cells cs' =>
        obtain ⟨g1, g2, g3⟩ := h2
        have hne := hkne i _ hi' (by simp)
        refine ⟨by simp only [hbs i hlt']; rw [upd_ne _ _ hne]; exact g1, by simp only [hbs i hlt']; exact g2, fun j c hc' => ?_⟩
        obtain ⟨v, hv, hR⟩ := g3 j c hc'
        refine ⟨v, by simp only [hbs i hlt']; exact hv, hR.mono hle hbs ?_ fun x hx => ⟨rfl, upd_ne _ _ fun e => hno (.cell i j) (e ▸ ownAt_cell hi' hc' hv hx)⟩⟩
        have := h.stolt i _ hi'
        simp only [Ent.lt] at this
        exact ltAll_iff.1 this c (List.mem_of_getElem? hc')
      | gone => trivial
      | loop x y z u =>
        obtain ⟨g1, g2, g3⟩ := h2
        have hne := hkne i _ hi' (by simp)
        exact ⟨by simp only [hbs i hlt']; rw [upd_ne _ _ hne]; exact g1, by simp only [hbs i hlt']; exact g2, fun t => (g3 t).imp_right fun hr => hr.mono hle hbs (h.stolt i _ hi' t)⟩
    · refine ⟨by simp only [upd_same], ⟨by simp only [upd_same]; exact hsp, by simp only [upd_same]; exact hsh, fun hst => by simp only [upd_same] at hst; cases hst⟩, fun j c hc' => ?_⟩
      obtain ⟨v, h1, h2⟩ := hc j c hc'
      exact ⟨v, by simp only [upd_same]; exact h1, .sh (.pl (h2.mono hle))⟩
  · rw [List.length_append]
    rcases hget i e hi with ⟨_, hi'⟩ | ⟨rfl, rfl⟩
    · have := h.stolt i e hi'
      cases e with
      | cells cs' => exact ltAll_iff.2 fun v hv => lt_mono (by simp) (ltAll_iff.1 this v hv)
      | gone => trivial
      | loop x y z u => exact fun t => lt_mono (by simp) (this t)
    · exact ltAll_iff.2 fun v hv => lt_mono (by simp) (ltAll_iff.1 hlt v hv)
  · by_cases e : x = b
    · subst e; exact hsp.lt
    · simp only [upd_ne _ _ e] at hx; exact h.kfree x hx
  · rcases hget i e hi with ⟨hlt', hi'⟩ | ⟨rfl, rfl⟩
    · simp only [hbs i hlt']; exact h.inj i e hi' hcl
    · simp only [upd_same]; exact hF
  · refine h.marks.mono fun d hd x hx => ⟨rfl, upd_ne _ _ fun e => ?_⟩
    have e2 := (h.marks.kind d hd x hx).2.1
    rw [e, hK] at e2; cases e2

theorem bytesP_lt (s : ByteArray) (k : Nat) : ltAll k (bytesP s) := ltAll_iff.2 fun v hv => by
  obtain ⟨x, _, rfl⟩ := List.mem_map.1 hv; trivial
theorem bytesP_append (s t : ByteArray) : bytesP (s ++ t) = bytesP s ++ bytesP t := by simp [bytesP, ByteArray.data_append]

theorem Sim.seal (h : Sim n m F G env σ a w) {i j e : Nat} {cs : List PV} {s : ByteArray} (hi : σ[i]? = some (.cells cs)) (hj : cs[j]? = some (.sl (.tb e) 1 (bytesP s))) (hs : 0 < s.size) :
    ∃ cap G', s.size ≤ cap ∧ Sim n m F G' env (σ.set i (.cells (cs.set j (.tsl σ.length e cap s.size cap))) ++ [.cells (bytesP s)]) a w ∧ Evol m F G w G' w := by
  have hil : i < σ.length := (List.getElem?_eq_some_iff.1 hi).1
  have hjl : j < cs.length := (List.getElem?_eq_some_iff.1 hj).1
  obtain ⟨h1, v, hv, hr, hf⟩ := h.takeCell hi hj rfl
  generalize hes : bytesP s = es at hr
  have hel : es.length = s.size := by rw [← hes]; exact bytesP_len s
  cases hr with
  | sh hr => cases hr with | pl hr => cases hr
  | tb0 => simp at hel; omega
  | tb b cap _ _ _ vs hK hc h0 hsp hsh hsz hcv hrr =>
    subst hes
    rw [bytesP_len] at hel hc hcv
    obtain ⟨hnF, hno⟩ := hf b (by simp [ownB, h0])
    rw [Nat.mul_one] at hsp hsh hcv
    have hfl : flat (bytesP s) = bytesP s := by rw [bytesP, flat_one encB (fun _ => rfl)]
    rw [hfl] at hrr
    obtain ⟨h2, hev⟩ := h1.adopt (ty := (e, cap)) (cs := bytesP s) hK hno hnF (hsp.sub (Nat.le_refl _) (by rw [bytesP_len]; exact hc)) hsh (bytesP_lt s _) (fun k c hk => by
      have hkl : k < s.size := by have := (List.getElem?_eq_some_iff.1 hk).1; rw [bytesP_len] at this; exact this
      exact ⟨vs k, hcv k hkl, hrr k c hk⟩)
    rw [List.length_set] at h2 hev
    have h3 := h2.reread (i := i) (cs := cs.set j (left1 (.sl (.tb e) 1 (bytesP s)))) (cs' := cs.set j (.tsl σ.length e cap s.size cap)) (by rw [List.getElem?_append_left (by rw [List.length_set]; exact hil), List.getElem?_set_self hil]) (by simp) (by
      have hst := h.stolt i _ hi
      simp only [Ent.lt] at hst
      rw [ltAll_iff]; intro c hcm
      rcases List.mem_or_eq_of_mem_set hcm with hm | rfl
      · exact lt_mono (by simp) (ltAll_iff.1 hst c hm)
      · simp [PV.lt]) (fun k c u hk hu => by
      by_cases ek : k = j
      · subst ek
        rw [List.getElem?_set_self hjl] at hk; cases hk
        simp only [upd_ne G.bs ⟨b, (e, cap), true⟩ (show i ≠ σ.length by omega)] at hu
        rw [hv] at hu; cases hu
        refine .inr ⟨.sh ?_, rfl⟩
        have : RepS ⟨upd G.K b (.box σ.length), upd G.bs σ.length ⟨b, (e, cap), true⟩⟩ w (.slice (some ⟨(upd G.bs σ.length ⟨b, (e, cap), true⟩ σ.length).b, 0, none⟩) s.size cap) (.tsl σ.length e cap s.size cap) := .tsl _ _ _ _ _ (by simp only [upd_same])
        rw [upd_same] at this
        rw [bytesP_len]; exact this
      · left; rw [List.getElem?_set_ne (Ne.symm ek)] at hk ⊢; exact hk)
    refine ⟨cap, _, hc, ?_, hev⟩
    rw [List.set_append_left _ _ (by rw [List.length_set]; exact hil), List.set_set] at h3
    exact h3
end

section
variable {P : Program} {l : Option Nat} {tt : TT} {n m : Nat} {all : Array Oper} {rest : List Oper} {env : Env} {σ : Sto} {Q : Post} {d : Nat} {ty : TypeId} {pos : String} {after : Array Edge} {dd : Option Nat} {g : Option (Nat × Bool)}

theorem sat_seal {c : Code} {i j e : Nat} {cs : List PV} {s : ByteArray} (hi : σ[i]? = some (.cells cs)) (hj : cs[j]? = some (.sl (.tb e) 1 (bytesP s))) (hs : 0 < s.size)
    (h : ∀ cap, s.size ≤ cap → Sat P l n m c env (σ.set i (.cells (cs.set j (.tsl σ.length e cap s.size cap))) ++ [.cells (bytesP s)]) Q) : Sat P l n m c env σ Q :=
  ⟨fun F G a w hsim => by
    obtain ⟨cap, G', h1, h2, h3⟩ := hsim.seal hi hj hs
    exact wpIn_mono ((h cap h1).go F G' a w h2) fun _ _ _ q => q.evol h3⟩

theorem op_allocTb (e : Nat) {τ ex : Sto} (ht : TabOK P tt) {t : TypeId} {i : TI} {k : Nat} (hi : tl tt t = some i) (hz : i.zero = [.nilptr, .sl .sh 1 []]) (hk : ex.length = k) (hd : Nat.ble (d + 1) n = true)
    (h : SatOps P l n m all rest ((d, .ptr (τ.length + k) 0) :: env) (τ ++ (ex ++ [.cells [.bnil (τ.length + k) t 2, .sl (.tb e) 1 []]])) Q) :
    SatOps P l n m all (⟨some d, .alloc t, ty, pos, after, none⟩ :: rest) env (τ ++ ex) Q := by
  subst hk
  refine op_gen rfl (by simp) fun F G a w hs => ?_
  obtain ⟨z, hz', hzc⟩ := (ht _ _ hi).rzero w
  rw [hz] at hzc
  obtain ⟨hl, hc⟩ := zcs_get hzc
  have hzz : z.cells = #[.pointer none, .slice none 0 0] := by
    apply Array.toList_inj.1
    match hzl : z.cells.toList with
    | [] => rw [hzl] at hl; cases hl
    | [_] => rw [hzl] at hl; cases hl
    | [v0, v1] =>
      rw [hzl] at hc
      have e0 := hc 0 v0 .nilptr rfl rfl
      have e1 := hc 1 v1 (.sl .sh 1 []) rfl rfl
      have e0' : v0 = .pointer none := by unfold zc1 at e0; split at e0 <;> first | rfl | (exfalso; simp_all; done)
      have e1' : v1 = .slice none 0 0 := by unfold zc1 at e1; split at e1 <;> first | rfl | (exfalso; simp_all; done)
      rw [e0', e1']
    | _ :: _ :: _ :: _ => rw [hzl] at hl; simp at hl
  have hs1 := hs.box z.cells t [.nilptr, .sl (.tb e) 1 []] (by rw [hzz]; exact Nat.le_refl _) ⟨trivial, trivial, trivial⟩ (fun j v c hv hc' => by
      rw [hzz] at hv
      match j, hv, hc' with
      | 0, hv, hc' => simp at hv hc'; subst hv; subst hc'; exact .sh (.pl .nilptr)
      | 1, hv, hc' => simp at hv hc'; subst hv; subst hc'; exact .tb0 _ _ _
      | k + 2, hv, _ => simp at hv) (.of_sh fun j v c hv hc' => by
      rw [hzz] at hv
      match j, hv, hc' with
      | 0, hv, hc' => simp at hv hc'; subst hv; subst hc'; rfl
      | 1, hv, hc' => simp at hv hc'; subst hv; subst hc'; rfl
      | k + 2, hv, _ => simp at hv)
  have hs2 := hs1.reread (i := (τ ++ ex).length) (cs := [.nilptr, .sl (.tb e) 1 []]) (cs' := [.bnil (τ ++ ex).length t 2, .sl (.tb e) 1 []]) (by rw [List.getElem?_append_right (Nat.le_refl _), Nat.sub_self]; rfl) rfl (by simp [ltAll, PV.lt]) (fun j c v hc' hv => by
    match j, hc' with
    | 0, hc' =>
      simp only [List.getElem?_cons_zero, Option.some.injEq] at hc'
      subst hc'
      simp only [upd_same] at hv
      rw [World.cell?_alloc_new w z.cells t 0, hzz] at hv
      simp at hv
      subst hv
      exact .inr ⟨.sh (.bnil _ _ _ (by simp only [upd_same]; rw [hzz]; rfl)), rfl⟩
    | 1, hc' => exact .inl hc'
    | k + 2, hc' => simp at hc')
  rw [List.set_append_right _ _ (Nat.le_refl _), Nat.sub_self] at hs2
  refine ⟨.pointer (some ⟨w.heap.size, 0, none⟩), _, _, _, _, .inl (by simp [execOp, Instr.alloc, hz', newVar, newRow]), hs2.setS (ltn hd) (v := .pointer (some ⟨w.heap.size, 0, none⟩)) (p := .ptr (τ ++ ex).length 0) ?_ (by simp [PV.lt]), Evol.alloc hs _ _ _ fun i hi => upd_ne _ _ (by have := hs.floor; omega), ?_⟩
  · have : RepS ⟨upd G.K w.heap.size (.box (τ ++ ex).length), upd G.bs (τ ++ ex).length ⟨w.heap.size, (t, z.cells.size), false⟩⟩ (w.alloc (.cells z.cells t)) (.pointer (some ⟨(upd G.bs (τ ++ ex).length ⟨w.heap.size, (t, z.cells.size), false⟩ (τ ++ ex).length).b, 0, none⟩)) (.ptr (τ ++ ex).length 0) := .ptr _ _
    rw [upd_same] at this
    exact this
  · rw [List.length_append, List.append_assoc]; exact h

theorem lk_nilCheck {x : Operand} {i off : Nat} (hx : opv tt env 0 x = .ptr i off) : LookAt P n m env σ ⟨dd, .nilCheck x, ty, pos, after, g⟩ (.ptr i off) := ⟨fun F G a w hs => by
  have h1 := opv_ok hs tt 0 x
  have h2 := opv_lt hs tt 0 x
  rw [hx] at h1 h2
  have ex := (h1.toS rfl).ptrv
  exact ⟨a.eval x, by simp only [execOp, ex]; rfl, h1, h2⟩⟩

theorem run_eqNil {w : World} {xT te : TypeId} (hu : P.underlying xT = some (.pointer te)) (p : Option Addr) : (binOp .eql xT (.pointer p) (.pointer none)).run P w = .ok (.bool p.isNone) w := by
  have h : ∀ d : Nat, (Op.equalIn (d + 1) xT (.pointer p) (.pointer none)).run P w = .ok p.isNone w := fun d => by
    cases p <;> simp [Op.equalIn, underlying, hu]
  simp only [binOp]
  simp [Op.equal, Op.maxDepth, h 9999]

theorem lk_eqNilT (ht : TabOK P tt) {xT yT te : TypeId} {ti : TI} {x : Operand} {i T k : Nat} (hti : tl tt xT = some ti) (htd : ti.desc = .pointer te) (hx : opv tt env xT x = .bnil i T k) :
    LookAt P n m env σ ⟨dd, .binOp .eql xT x (.const (.pointer none)) yT, ty, pos, after, g⟩ (.bool true) := ⟨fun F G a w hs => by
  have h1 := opv_ok hs tt xT x
  rw [hx] at h1
  have hu := (ht _ _ hti).und
  rw [htd] at hu
  have ex := (h1.toS rfl).bnilv.1
  have hg : (eqGuard .eql xT x (.const (.pointer none)) (a.eval x) (.pointer none)).run P w = .ok () w := eqGuard_plain (by simp [ex]) (by simp [ex])
  have hc : a.eval (.const (.pointer none)) = .pointer none := rfl
  exact ⟨.bool true, by simp only [execOp, hc, Sem.run_bind, hg, Result.andThen_ok, ex, run_eqNil hu, Sem.run_pure]; rfl, .inr (.inl (.pl (.bool _))), trivial⟩⟩
theorem lk_eqNilF (ht : TabOK P tt) {xT yT te : TypeId} {ti : TI} {x : Operand} {i T k : Nat} (hti : tl tt xT = some ti) (htd : ti.desc = .pointer te) (hx : opv tt env xT x = .tptr i T k) :
    LookAt P n m env σ ⟨dd, .binOp .eql xT x (.const (.pointer none)) yT, ty, pos, after, g⟩ (.bool false) := ⟨fun F G a w hs => by
  have h1 := opv_ok hs tt xT x
  rw [hx] at h1
  have hu := (ht _ _ hti).und
  rw [htd] at hu
  have ex := (h1.toS rfl).tptrv.1
  have hg : (eqGuard .eql xT x (.const (.pointer none)) (a.eval x) (.pointer none)).run P w = .ok () w := eqGuard_plain (by simp [ex]) (by simp [ex])
  have hc : a.eval (.const (.pointer none)) = .pointer none := rfl
  exact ⟨.bool false, by simp only [execOp, hc, Sem.run_bind, hg, Result.andThen_ok, ex, run_eqNil hu, Sem.run_pure]; rfl, .inr (.inl (.pl (.bool _))), trivial⟩⟩
theorem lk_neqSelf (ht : TabOK P tt) {xT yT te : TypeId} {ti tj : TI} {x y : Operand} {i T k : Nat} (hti : tl tt xT = some ti) (htd : ti.desc = .pointer te) (htj : tl tt te = some tj) (hx : opv tt env xT x = .tptr i T k) (hy : opv tt env yT y = .ptr i 0) :
    LookAt P n m env σ ⟨dd, .binOp .neq xT x y yT, ty, pos, after, g⟩ (.bool false) := ⟨fun F G a w hs => by
  have h1 := opv_ok hs tt xT x
  have h2 := opv_ok hs tt yT y
  rw [hx] at h1
  rw [hy] at h2
  have hu := (ht _ _ hti).und
  rw [htd] at hu
  obtain ⟨info, _, hinf, _⟩ := (ht _ _ htj).inf
  have ex := (h1.toS rfl).tptrv.1
  have ey := (h2.toS rfl).ptrv
  have hg : (eqGuard .neq xT x y (a.eval x) (a.eval y)).run P w = .ok () w := eqGuard_plain (by simp [ex]) (by simp [ex])
  have hb := Lib.run_neq_ptr_same (P := P) w (tp := xT) (te := te) ⟨G.bs i, 0, none⟩ hu hinf
  exact ⟨.bool false, by simp only [execOp, Sem.run_bind, hg, Result.andThen_ok, Sem.run_pure]; rw [ex, ey, hb]; rfl, .inr (.inl (.pl (.bool _))), trivial⟩⟩

theorem lk_toUnsafe (ht : TabOK P tt) {src dst te : TypeId} {ti tj : TI} {x : Operand} {u i T k : Nat} {cs : List PV} (hti : tl tt src = some ti) (htd : ti.desc = .pointer te) (hd : P.underlying dst = some .unsafePointer) (htj : tl tt te = some tj) (hj0 : Nat.beq tj.size 0 = false)
    (hu : look env u = .bnil i T k) (hk : Nat.ble 1 k = true) (hx : opv tt env src x = .ptr i 0) (hi : σ[i]? = some (.cells cs)) : LookAt P n m env σ ⟨dd, .convert src dst x, ty, pos, after, g⟩ (.tptr i T k) := ⟨fun F G a w hs => by
  have h1 := opv_ok hs tt src x
  have h2 := opv_lt hs tt src x
  rw [hx] at h1 h2
  have hus := (ht _ _ hti).und
  rw [htd] at hus
  obtain ⟨info, _, hinf, hsz, _⟩ := (ht _ _ htj).inf
  have ex := (h1.toS rfl).ptrv
  have h3 := hs.rep u
  rw [hu] at h3
  have hty := (h3.toS rfl).bnilv.2
  obtain ⟨_, hsp, _⟩ := hs.sto i _ hi
  have hsh := hsp.sh
  rw [hty] at hsh
  have hr := Lib.run_to_unsafe (P := P) w ⟨G.bs i, 0, none⟩ hus hd hinf (by rw [hsz]; exact fun e => by rw [e] at hj0; cases hj0) hsh (Nat.le_of_ble_eq_true hk)
  refine ⟨.pointer (some ⟨G.bs i, 0, none⟩), by simp [execOp, ex, hr], .inr (.inl (.tptr i T k hty)), h2⟩⟩
theorem lk_fromUnsafe (ht : TabOK P tt) {src dst te : TypeId} {ti tj : TI} {x : Operand} {i T k : Nat} {cs : List PV} (hs' : P.underlying src = some .unsafePointer) (hti : tl tt dst = some ti) (htd : ti.desc = .pointer te) (htj : tl tt te = some tj) (hlies : liesAt P P.depth T (k / P.cellsOf T) 0 te 1 = true)
    (hx : opv tt env src x = .tptr i T k) (hi : σ[i]? = some (.cells cs)) : LookAt P n m env σ ⟨dd, .convert src dst x, ty, pos, after, g⟩ (.tptr i T k) := ⟨fun F G a w hs => by
  have h1 := opv_ok hs tt src x
  have h2 := opv_lt hs tt src x
  rw [hx] at h1 h2
  obtain ⟨ex, hty⟩ := (h1.toS rfl).tptrv
  obtain ⟨_, hsp, _⟩ := hs.sto i _ hi
  have hsh := hsp.sh
  rw [hty] at hsh
  have hd := (ht _ _ hti).und
  rw [htd] at hd
  obtain ⟨info, _, hinf, _⟩ := (ht _ _ htj).inf
  have hr := Lib.run_from_unsafe (P := P) w ⟨G.bs i, 0, none⟩ hs' hd hinf hsh hlies
  refine ⟨.pointer (some ⟨G.bs i, 0, none⟩), by simp [execOp, ex, hr], .inr (.inl (.tptr i T k hty)), h2⟩⟩
theorem lk_noEscape {f : FuncId} {fn : Func} {x : Operand} {t : TypeId} {p : PV} (hf : P.funcs[f]? = some fn) (hname : (fn.name == "runtime.NumGoroutine") = false) (hb : fn.body.isNone = true) (hn : Extern.findNext fn = none) (hfe : Extern.find fn = some Extern.AbiNoEscape.same)
    (hx : opv tt env t x = p) (hS : p.isS = true) : LookAt P n m env σ ⟨dd, .call ⟨.value (.func f), #[x], #[t]⟩, ty, pos, after, g⟩ p := ⟨fun F G a w hs => by
  have h1 := opv_ok hs tt t x
  have h2 := opv_lt hs tt t x
  rw [hx] at h1 h2
  have h3 := run_callFunc_extern (P := P) hf hname hb hn hfe #[a.eval x] w
  rw [Lib.run_noEscape] at h3
  have hff : a.eval (.func f) = .func (.func f) #[] #[] := rfl
  exact ⟨a.eval x, by simp [execOp, resolve, invoke, hff, Deferred.ofValue, h3], h1, h2⟩⟩

theorem op_appendTb (ht : TabOK P tt) {tb : Nat} {xo : Operand} {tS tX : TypeId} {e' : Nat} {s0 s : ByteArray} {e iS : TI} (hb : look env tb = .sl (.tb e') 1 (bytesP s0)) (he : eti tt tS = some e) (hez : Nat.beq e.size 1 = true) (hS : tl tt tS = some iS) (hSd : iS.desc = .slice e')
    {i : TI} (hX : tl tt tX = some i) (hXi : i.desc = .string) (hx : opv tt env tX xo = .str s) (hB : Nat.ble e.bytes 1 = true) (hfit : s0.size + s.size ≤ 70368744177664) (hd : Nat.ble (d + 1) n = true)
    (h : SatOps P l n m all rest ((d, .sl (.tb e') 1 (bytesP (s0 ++ s))) :: (tb, .dead) :: env) σ Q) :
    SatOps P l n m all (⟨some d, .call ⟨.builtin .append, #[.tmp tb, xo], #[tS, tX]⟩, ty, pos, after, none⟩ :: rest) env σ Q := by
  refine op_gen rfl (by simp) fun F G a w hs => ?_
  obtain ⟨h1, h2, h3⟩ := hs.take hb rfl
  obtain ⟨eT, hu, hT⟩ := eti_ok ht he
  have hxo := opv_ok hs tt tX xo
  rw [hx] at hxo
  have ex := (hxo.toS rfl).str
  obtain ⟨news, hsrc⟩ := Src.str (P := P) (K := G.K) (w := w) s
  have hbl := bytesP_len s
  have hbl0 := bytesP_len s0
  have hB := Nat.le_of_ble_eq_true hB
  have hu2 := (ht _ _ hS).und
  rw [hSd, hu] at hu2
  have hee : eT = e' := by cases hu2; rfl
  have hmul : (s0.size + s.size) * e.bytes ≤ (s0.size + s.size) * 1 := Nat.mul_le_mul_left _ hB
  obtain ⟨v', w', K', hr, hs', hev⟩ := append_core (d := d) (ty := ty) h1 (by simp) h2 h3 hsrc hu hT (Nat.eq_of_beq_eq_true hez) (ht _ _ hX).und (by rw [hXi]; simp) (fun e'' he'' => by cases he''; exact hee) (by rw [hbl, hbl0]; omega) (by rw [hbl, hbl0]; omega) (by
    rw [bytesP, flat_one encB (fun _ => rfl)]; intro c hc; obtain ⟨b, _, rfl⟩ := List.mem_map.1 hc; rfl) (ltn hd)
  rw [← bytesP_append] at hs'
  exact ⟨v', w', _, _, σ, .inl (run_app (by rw [ex]; exact hr)), hs', hev, h⟩

theorem lk_sliceData {x : Operand} {t : TypeId} {i e k len cap : Nat} (hx : opv tt env t x = .tsl i e k len cap) (h0 : Nat.beq len 0 = false) (hlc : len ≤ cap) : LookAt P n m env σ ⟨dd, .call ⟨.builtin .unsafeSliceData, #[x], #[t]⟩, ty, pos, after, g⟩ (.tptr i e k) := ⟨fun F G a w hs => by
  have h1 := opv_ok hs tt t x
  have h2 := opv_lt hs tt t x
  rw [hx] at h1 h2
  have hl0 : len ≠ 0 := fun e => by rw [e] at h0; cases h0
  obtain ⟨ex, hty⟩ := (h1.toS rfl).tslv
  have hr := Lib.run_unsafeSliceData_row (P := P) w #[t] ty ⟨G.bs i, 0, none⟩ len cap (by omega)
  exact ⟨.pointer (some ⟨G.bs i, 0, none⟩), by simp [execOp, resolve, invoke, builtin, ex, hr], .inr (.inl (.tptr i e k hty)), h2⟩⟩
theorem lk_lenT (ht : TabOK P tt) {x : Operand} {t : TypeId} {ti : TI} {eT i e k len cap : Nat} (hti : tl tt t = some ti) (htd : ti.desc = .slice eT) (hx : opv tt env t x = .tsl i e k len cap) : LookAt P n m env σ ⟨dd, .call ⟨.builtin .len, #[x], #[t]⟩, ty, pos, after, g⟩ (.int .i64 len) := ⟨fun F G a w hs => by
  have h1 := opv_ok hs tt t x
  rw [hx] at h1
  have hu := (ht _ _ hti).und
  rw [htd] at hu
  have ex := (h1.toS rfl).tslv.1
  exact ⟨.int .i64 len, by simp [execOp, resolve, invoke, builtin, Builtin.len_, Builtin.lenOf, underlying, hu, ex, goInt], .inr (.inl (.pl (.int _ _))), trivial⟩⟩

theorem op_unsafeString {x y : Operand} {pt it : TypeId} {i e k : Nat} {s : ByteArray} (hx : opv tt env pt x = .tptr i e k) (hy : opv tt env it y = .int .i64 s.size) (hi : σ[i]? = some (.cells (bytesP s))) (hp : P.underlying pt = some (.pointer e)) (hc : P.cellsOf e = 1)
    (h0 : 0 < s.size) (hmax : s.size ≤ 70368744177664) (hd : Nat.ble (d + 1) n = true) (h : SatOps P l n m all rest ((d, .str s) :: env) (σ.set i .gone) Q) :
    SatOps P l n m all (⟨some d, .call ⟨.builtin .unsafeString, #[x, y], #[pt, it]⟩, ty, pos, after, none⟩ :: rest) env σ Q := by
  refine op_gen rfl (by simp) fun F G a w hs => ?_
  have h1 := opv_ok hs tt pt x
  have h2 := opv_ok hs tt it y
  rw [hx] at h1
  rw [hy] at h2
  obtain ⟨ex, hty⟩ := (h1.toS rfl).tptrv
  have ey := (h2.toS rfl).int
  obtain ⟨hK, hsp, hcell⟩ := hs.sto i _ hi
  have hsh := hsp.sh
  rw [hty] at hsh
  have hlen : s.data.toList.length = s.size := by simp
  have hn : s.data.toList.length ≤ k := by
    obtain ⟨arr, T, fz, a1, a2, _⟩ := hsp.sp
    have : w.shape? (G.bs i).b = some (T, arr.size) := by simp [World.shape?, a1]
    rw [hsh] at this; cases this
    rw [bytesP_len] at a2; omega
  have hr := Lib.run_unsafeString_row (P := P) w pt it ty e hp hc (G.bs i).b k hsh s.data.toList (by intro e; rw [e] at hlen; simp at hlen; omega) hn (by omega) (fun j c hj => by
    obtain ⟨v, h3, h4⟩ := hcell j (encB c) (by rw [bytesP, List.getElem?_map, hj]; rfl)
    have : v = .int .u8 c.toNat := by cases h4 with | sh h => exact h.int
    subst this
    rw [show (⟨(G.bs i).b, 0, none⟩ : Addr).add j = ⟨(G.bs i).b, j, none⟩ by simpa using add_eq (ad := ⟨(G.bs i).b, 0, none⟩) rfl j]; exact h3)
  rw [hlen] at hr
  have hother : ∀ b : Nat, b ≠ (G.bs i).b → (w.freeze ⟨(G.bs i).b, 0, none⟩ s.size).heap[b]? = w.heap[b]? := fun b hb => by
    unfold World.freeze
    split
    · rfl
    · simp only [Array.getElem?_modify]; rw [if_neg (Ne.symm hb)]
  have hsz : (w.freeze ⟨(G.bs i).b, 0, none⟩ s.size).heap.size = w.heap.size := by
    unfold World.freeze; split
    · rfl
    · simp
  have hfx : (w.freeze ⟨(G.bs i).b, 0, none⟩ s.size).os = w.os ∧ (w.freeze ⟨(G.bs i).b, 0, none⟩ s.size).tape = w.tape ∧ (w.freeze ⟨(G.bs i).b, 0, none⟩ s.size).output = w.output := by
    unfold World.freeze; split <;> exact ⟨rfl, rfl, rfl⟩
  have hne : ∀ (b : Nat) kk, G.K b = kk → (∀ j, kk ≠ .box j) → b ≠ (G.bs i).b := fun b kk hb hk eb => hk i (by rw [← hb, eb, hK])
  have hle : ImmLe G.K w G.K (w.freeze ⟨(G.bs i).b, 0, none⟩ s.size) := fun b p hb => by
    have := hother b (hne b _ hb (by simp))
    exact ⟨p, ⟨Nat.le_refl _, shape_eq this⟩, hb, fun j _ => cell_eq this⟩
  have hs1 := hs.gone i
  have hs2 := hs1.world3 hle hsz (fun l' b hl => hother b (by
      rcases own_kind hs1 hl with e1 | ⟨q, e1⟩
      · exact hne b _ e1 (by simp)
      · exact hne b _ e1 (by simp))) (fun q e1 hq hg => hother _ fun eb => by
      rw [List.getElem?_set] at hq
      split at hq
      · split at hq
        · cases hq; exact hg rfl
        · cases hq
      · rename_i hqi
        have h5 := hs.sto q e1 hq
        have h6 : G.K (G.bs q).b = .box q := by
          cases e1 with
          | cells _ => exact h5.1
          | gone => exact absurd rfl hg
          | loop _ _ _ _ => exact h5.1
        rw [eb, hK] at h6; cases h6; exact hqi rfl) (fun b hb => hother b (hne b _ hb (by simp)))
  refine ⟨.string s, _, G, _, σ.set i .gone, .inl ?_, hs2.setS (ltn hd) (.pl (.str s)) trivial, ⟨hfx.1, hfx.2.1, hfx.2.2, by rw [hsz]; exact Nat.le_refl _, fun b hb => ⟨hother b fun e => hs.inj i _ hi (.inl ⟨_, rfl⟩) (e ▸ hb), rfl⟩, hle, fun _ _ => rfl⟩, h⟩
  have : (⟨s.data.toList.toArray⟩ : ByteArray) = s := by cases s; simp
  rw [this] at hr
  simp [execOp, resolve, invoke, builtin, ex, ey, hr]

theorem op_callS {σ' : Sto} {fo : Operand} {args : Array Operand} {ats : Array TypeId} {f : FuncId} {ps : List PV} {p : PV} (hcal : Callable P f) (hc : SatCall P f ps σ fun x s => x = p ∧ s = σ') (hfo : fo = .func f) (hps : passL tt env args.toList ats.toList = ps) (hlen : Nat.ble args.size ats.size = true)
    (htup : ps.all (fun p => !p.isTup) = true) (hd : Nat.ble (d + 1) n = true) (h : SatOps P l n m all rest ((d, p) :: env) σ' Q) :
    SatOps P l n m all (⟨some d, .call ⟨.value fo, args, ats⟩, ty, pos, after, none⟩ :: rest) env σ Q :=
  op_callR (tt := tt) hcal hc hfo hps hlen htup hd fun r s ⟨h1, h2⟩ => by subst h1; subst h2; exact h

end
end Go.Proofs.Ytbjmafbbjhoddaa.Pv
