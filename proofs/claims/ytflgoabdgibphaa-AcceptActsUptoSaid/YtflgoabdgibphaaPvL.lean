/- Slices that grow. -/
import Derived.Test.YtflgoabdgibphaaPvK
namespace Go.Proofs.Ytflgoabdgibphaa.Pv
open Go
set_option linter.unusedVariables false
set_option linter.unusedSimpArgs false

/-- A byte, as an element. -/
def encB (b : UInt8) : PV := .int .u8 (b.toNat : Int)
def bytesP (s : ByteArray) : List PV := s.data.toList.map encB

/-- Elements that are appended: their cells, as they are read. -/
structure Src (P : Program) (K : Nat → Kind) (w : World) (sz : Nat) (x : Value) (ys : List PV) (news : Array Value) : Prop where
  len : ∀ w', (Builtin.lenOf x).run P w' = .ok ys.length w'
  first : (Builtin.firstCells sz ys.length x).run P w = .ok news w
  firstD : (Builtin.firstCells sz ys.length x).run P w.drew = .ok news w.drew
  size : news.size = ys.length * sz
  hsz : ∀ e ∈ ys, e.cells.length = sz
  rep : ∀ (j : Nat) c, (flat ys)[j]? = some c → ∃ v, news[j]? = some v ∧ RepP K w v c

theorem first_sl {P : Program} {w : World} {sz len cap : Nat} {ad : Addr} (vs : Nat → Value) (hs : ad.spot = none) (hv : ∀ j, j < len * sz → w.cell? ⟨ad.block, ad.off + j, none⟩ = some (vs j)) :
    (Builtin.firstCells sz len (.slice (some ad) len cap)).run P w = .ok ((List.range (len * sz)).map vs).toArray w := by
  simp only [Builtin.firstCells]
  exact run_loadCells w ad (len * sz) vs fun j hj => by rw [add_eq hs]; exact hv j hj

theorem Src.sl {P : Program} {K : Nat → Kind} {w : World} {sz : Nat} {x : Value} {ys : List PV} (h : RepP K w x (.sl .sh sz ys)) : ∃ news, Src P K w sz x ys news := by
  obtain ⟨a, cap, rfl, h'⟩ := h.slv
  rcases h' with rfl | ⟨ad, p, vs, rfl, hs, hK, hp, hc, hsz, hv, hr⟩
  · refine ⟨#[], fun w' => rfl, ?_, ?_, by simp, by simp, fun j c hc => by simp [flat] at hc⟩
    · cases a <;> simp [Builtin.firstCells, loadCells, loadCellsFrom]
    · cases a <;> simp [Builtin.firstCells, loadCells, loadCellsFrom]
  · refine ⟨((List.range (ys.length * sz)).map vs).toArray, fun w' => rfl, first_sl vs hs hv, first_sl vs hs (fun j hj => hv j hj), by simp, hsz, fun j c hc => ?_⟩
    have hj : j < ys.length * sz := by rw [← flat_length hsz]; exact (List.getElem?_eq_some_iff.1 hc).1
    exact ⟨vs j, by simp [hj], hr j c hc⟩

theorem flat_one {α : Type} (f : α → PV) (h : ∀ x, (f x).cells = [f x]) (l : List α) : flat (l.map f) = l.map f := by
  induction l with
  | nil => rfl
  | cons x r ih => simp [flat, h, ih]

theorem bytesP_len (s : ByteArray) : (bytesP s).length = s.size := by simp [bytesP]

theorem Src.str {P : Program} {K : Nat → Kind} {w : World} (s : ByteArray) : ∃ news, Src P K w 1 (.string s) (bytesP s) news := by
  have hx : (s.extract 0 s.size).data = s.data := by
    have : s.extract 0 s.size = s := by simp
    rw [this]
  refine ⟨s.data.map fun b => .int .u8 b.toNat, fun w' => by simp [Builtin.lenOf, bytesP_len], ?_, ?_, ?_, ?_, fun j c hc => ?_⟩
  · simp [Builtin.firstCells, bytesP_len]
  · simp [Builtin.firstCells, bytesP_len]
  · simp [bytesP_len]
  · intro e he; obtain ⟨b, _, rfl⟩ := List.mem_map.1 he; rfl
  · rw [bytesP, flat_one encB (fun _ => rfl), List.getElem?_map, Option.map_eq_some_iff] at hc
    obtain ⟨b, hb, rfl⟩ := hc
    exact ⟨.int .u8 b.toNat, by simp at hb ⊢; exact ⟨b, hb, rfl⟩, .int _ _⟩

/-- The run of an append, whatever its operands. -/
theorem run_append {P : Program} {w : World} {tS tX eT ty : TypeId} {e : TI} (hu : P.underlying tS = some (.slice eT)) (hT : TyOK P eT e) {uX : TypeDesc} (hX : P.underlying tX = some uX) (hXi : ∀ k, uX ≠ .int k)
    {base : Option Addr} {sLen sCap : Nat} {x : Value} {ys : List PV} {news : Array Value} {K : Nat → Kind} (hsrc : Src P K w e.size x ys news) (olds : Array Value)
    (hold : (Builtin.firstCells e.size sLen (.slice base sLen sCap)).run P w.drew = .ok olds w.drew) (hle : sLen ≤ sCap) (h63 : sLen + ys.length ≤ 9223372036854775807) (hfit : (sLen + ys.length) * e.bytes ≤ 140737488355328) :
    (sLen + ys.length ≤ sCap → (Builtin.append_ #[tS, tX] ty #[.slice base sLen sCap, x]).run P w =
      ((match base with | some a => storeCells (a.add (sLen * e.size)) news.toList | none => pure ()).run P w).andThen fun _ w' => .ok (.slice base (sLen + ys.length) sCap) w') ∧
    (¬ sLen + ys.length ≤ sCap → ∃ zs : Array Value, zs.size = (grownCap w (sLen + ys.length) sCap eT - (sLen + ys.length)) * e.size ∧ (Builtin.append_ #[tS, tX] ty #[.slice base sLen sCap, x]).run P w =
      .ok (.slice (some ⟨w.heap.size, 0, none⟩) (sLen + ys.length) (grownCap w (sLen + ys.length) sCap eT)) (w.drew.alloc (.cells (olds ++ news ++ zs) eT))) := by
  obtain ⟨info, z, hi1, hi2, hi3, hi4, hi5⟩ := hT.inf
  have hzs : ((uX matches .int _) : Bool) = false := by cases uX <;> first | rfl | exact absurd rfl (hXi _)
  have hsize : ∀ w', (sizeOf eT).run P w' = .ok e.size w' := hT.rsize
  constructor
  · intro hfits
    simp only [Builtin.append_, List.getElem?_toArray, List.getElem?_cons_zero, List.getElem?_cons_succ, Sem.run_bind, underlying, hu, hX, run_program, Result.andThen_ok, Sem.run_pure, hsize, hzs, hsrc.len, hfits, if_true, hsrc.first, Bool.false_eq_true, if_false, Bool.not_false]
    cases base <;> simp
  · intro hfits
    have hns : Builtin.nextslicecap (sLen + ys.length) sCap * e.bytes ≤ 281474976710656 := by
      have := nextslicecap_le (need := sLen + ys.length) (old := sCap) (by omega)
      calc _ ≤ 2 * (sLen + ys.length) * e.bytes := Nat.mul_le_mul_right _ this
        _ = 2 * ((sLen + ys.length) * e.bytes) := Nat.mul_assoc _ _ _
        _ ≤ _ := by omega
    have hz : z.cells.size = e.size := by
      have := (zcs_get hi5).1
      rw [← hT.zl, ← this]; simp
    refine ⟨Builtin.zeroCells z.cells (grownCap w (sLen + ys.length) sCap eT - (sLen + ys.length)), by rw [size_zeroCells, hz], ?_⟩
    have h1 : ¬ ((sLen + ys.length : Nat) : Int) > IntKind.i64.max := by simp only [IntKind.max, IntKind.signed, IntKind.bits, if_true]; omega
    have h2 : ¬ Builtin.nextslicecap (sLen + ys.length) sCap * info.bytes > 2 ^ 48 := by rw [hi3]; omega
    simp only [Builtin.append_, List.getElem?_toArray, List.getElem?_cons_zero, List.getElem?_cons_succ, Sem.run_bind, underlying, hu, hX, run_program, Result.andThen_ok, Sem.run_pure, hsize, hzs, hsrc.len, hfits, Bool.false_eq_true, if_false, Bool.not_false, typeInfo, hi1, h1, false_and, h2, run_choose, Question.forced]
    have hd : ({ heap := w.heap, tape := w.tape, drawn := w.drawn + 1, os := w.os, output := w.output } : World) = w.drew := rfl
    have hgc : (Question.appendCap (sLen + ys.length) sCap eT).cut (w.tape w.drawn (Question.appendCap (sLen + ys.length) sCap eT)) = grownCap w (sLen + ys.length) sCap eT := rfl
    have hzr : (zeroValue eT).run P w.drew = .ok z w.drew := by simp [zeroValue, typeInfo, hi1, hi4]
    rw [hd, hgc, run_askRoom, Result.andThen_ok, hold, Result.andThen_ok, if_pos trivial, hsrc.firstD, Result.andThen_ok, hzr, Result.andThen_ok]
    simp only [newRow, Sem.run_bind, run_newObj, Result.andThen_ok, Sem.run_pure]
    rfl

/-- What a slice of one's own is. -/
structure OwnSl (G : Gh) (w : World) (v : Value) (o : Own) (sz : Nat) (es : List PV) (a : Option Addr) (cap : Nat) (vs : Nat → Value) : Prop where
  val : v = .slice a es.length cap
  le : es.length ≤ cap
  hsz : ∀ e ∈ es, e.cells.length = sz
  at_ : es = [] ∨ ∃ ad, a = some ad ∧ ad.spot = none ∧ ∀ j, j < es.length * sz → w.cell? ⟨ad.block, ad.off + j, none⟩ = some (vs j)
  rep : ∀ (j : Nat) c, (flat es)[j]? = some c → RepP G.K w (vs j) c
  room : es.length < cap → ∃ ad, a = some ad ∧ ad.spot = none ∧ ownB v (.sl o sz es) = some ad.block ∧ (o = .ow → G.K ad.block = .imm (ad.off + es.length * sz)) ∧ (o = .ex → G.K ad.block = .own ∧ ad.off = 0) ∧
    Spare w ad.block (ad.off + es.length * sz) (ad.off + cap * sz) ∧ (o = .ex → Spare w ad.block 0 (cap * sz))

theorem RepO.ownSl {G : Gh} {w : World} {v : Value} {o : Own} {sz : Nat} {es : List PV} (h : RepO G w v (.sl o sz es)) (ho : o ≠ .sh) : ∃ a cap vs, OwnSl G w v o sz es a cap vs := by
  cases h with
  | sh h => cases h with | pl h => cases h <;> exact absurd rfl ho
  | ow a cap sz es h hr =>
    have hroom : es.length < cap → ∃ ad, a = some ad ∧ ad.spot = none ∧ ownB (.slice a es.length cap) (.sl .ow sz es) = some ad.block ∧ (Own.ow = .ow → G.K ad.block = .imm (ad.off + es.length * sz)) ∧ (Own.ow = .ex → G.K ad.block = .own ∧ ad.off = 0) ∧
        Spare w ad.block (ad.off + es.length * sz) (ad.off + cap * sz) ∧ (Own.ow = .ex → Spare w ad.block 0 (cap * sz)) := by
      intro hlt
      obtain ⟨ad, rfl, h1, h2, h3⟩ := hr hlt
      exact ⟨ad, rfl, h1, by simp [ownB, hlt], fun _ => h2, fun h => by (cases h), h3, fun h => by (cases h)⟩
    obtain ⟨a', cap', he, h'⟩ := h.slv
    cases he
    rcases h' with rfl | ⟨ad, p, vs, rfl, hs, hK, hp, hc, hsz, hv, hrr⟩
    · exact ⟨a, cap, fun _ => undef, rfl, Nat.zero_le _, by simp, .inl rfl, fun j c hc => by simp [flat] at hc, hroom⟩
    · exact ⟨some ad, cap, vs, rfl, hc, hsz, .inr ⟨ad, rfl, hs, hv⟩, hrr, hroom⟩
  | ex0 a sz => exact ⟨a, 0, fun _ => undef, rfl, Nat.le_refl _, by simp, .inl rfl, fun j c hc => by simp [flat] at hc, fun h => absurd h (Nat.lt_irrefl _)⟩
  | ex b cap sz es vs hK hc h0 hsp hsz hv hr =>
    exact ⟨some ⟨b, 0, none⟩, cap, vs, rfl, hc, hsz, .inr ⟨_, rfl, rfl, fun j hj => by simpa using hv j hj⟩, hr, fun hlt => ⟨_, rfl, rfl, by simp [ownB, h0], fun h => by (cases h), fun _ => ⟨hK, rfl⟩, by simpa using hsp.sub (Nat.zero_le _) (Nat.le_refl _), fun _ => hsp⟩⟩

theorem flat_get_app {xs ys : List PV} {sz : Nat} (hx : ∀ e ∈ xs, e.cells.length = sz) {j : Nat} {c : PV} (h : (flat (xs ++ ys))[j]? = some c) :
    (j < xs.length * sz ∧ (flat xs)[j]? = some c) ∨ (xs.length * sz ≤ j ∧ (flat ys)[j - xs.length * sz]? = some c) := by
  rw [flat_append] at h
  by_cases hj : j < (flat xs).length
  · rw [List.getElem?_append_left hj] at h; rw [flat_length hx] at hj; exact .inl ⟨hj, h⟩
  · rw [List.getElem?_append_right (by omega), flat_length hx] at h; rw [flat_length hx] at hj; exact .inr ⟨by omega, h⟩

section
variable {P : Program} {l : Option Nat} {tt : TT} {n m : Nat} {all : Array Oper} {rest : List Oper} {env : Env} {σ : Sto} {Q : Post} {d : Nat} {ty : TypeId} {pos : String} {after : Array Edge}

theorem own_same {F : Nat → Prop} {G : Gh} {a : Act} {w w' : World} (h : Sim n m F G env σ a w) {K' : Nat → Kind} (hb : ∀ b i, G.K b = .box i → w'.heap[b]? = w.heap[b]?) (l' : Loc) :
    ownAt ⟨K', G.bs⟩ env σ a.tmps w' l' = ownAt G env σ a.tmps w l' := by
  cases l' with
  | slot t j => rfl
  | cell i j =>
    simp only [ownAt]
    cases hi : σ[i]? with
    | none => rfl
    | some e => cases e with
      | cells cs => simp only [cell_eq (hb _ _ (h.sto i _ hi).1)]
      | _ => rfl

theorem one_of_P {K : Nat → Kind} {w : World} {v : Value} {p : PV} (h : RepP K w v p) (hp : p.one = true) : v.oneCell' = true := by
  cases h <;> first | rfl | cases hp

/-- The heart of an append: the new value, the new world. -/
theorem append_core {F : Nat → Prop} {G : Gh} {a : Act} {w : World} (hs : Sim n m F G env σ a w) {o : Own} {sz : Nat} {es ys : List PV} {v x : Value} {news : Array Value} (ho : o ≠ .sh)
    (hv : RepO G w v (.sl o sz es)) (hfree : ∀ b, ownB v (.sl o sz es) = some b → ¬ F b ∧ ∀ l, ownAt G env σ a.tmps w l ≠ some b) (hsrc : Src P G.K w sz x ys news)
    {tS tX eT : TypeId} {e : TI} (hu : P.underlying tS = some (.slice eT)) (hT : TyOK P eT e) (hez : e.size = sz) {uX : TypeDesc} (hX : P.underlying tX = some uX) (hXi : ∀ k, uX ≠ .int k)
    (h63 : es.length + ys.length ≤ 9223372036854775807) (hfit : (es.length + ys.length) * e.bytes ≤ 140737488355328) (hone1 : ∀ c ∈ flat ys, c.one = true) (hd : d < n) :
    ∃ v' w' K', (Builtin.append_ #[tS, tX] ty #[v, x]).run P w = .ok v' w' ∧ Sim n m F ⟨K', G.bs⟩ ((d, .sl o sz (es ++ ys)) :: env) σ (a.put (some d) v') w' ∧ Evol m F G w ⟨K', G.bs⟩ w' := by
  subst hez
  obtain ⟨av, cap, vs, H⟩ := hv.ownSl ho
  obtain ⟨rfl, hle, hsz, hat, hrep, hroom⟩ := H
  obtain ⟨olds, hold, holdD, holds, holdr⟩ : ∃ olds : Array Value, (Builtin.firstCells e.size es.length (.slice av es.length cap)).run P w = .ok olds w ∧ (Builtin.firstCells e.size es.length (.slice av es.length cap)).run P w.drew = .ok olds w.drew ∧
      olds.size = es.length * e.size ∧ ∀ (j : Nat) c, (flat es)[j]? = some c → ∃ v, olds[j]? = some v ∧ RepP G.K w v c := by
    rcases hat with rfl | ⟨ad, rfl, hsp, hcell⟩
    · refine ⟨#[], ?_, ?_, by simp, fun j c hc => by simp [flat] at hc⟩ <;> (cases av <;> simp [Builtin.firstCells, loadCells, loadCellsFrom])
    · refine ⟨((List.range (es.length * e.size)).map vs).toArray, first_sl vs hsp hcell, first_sl vs hsp (fun j hj => hcell j hj), by simp, fun j c hc => ?_⟩
      have hj : j < es.length * e.size := by rw [← flat_length hsz]; exact (List.getElem?_eq_some_iff.1 hc).1
      exact ⟨vs j, by simp [hj], hrep j c hc⟩
  obtain ⟨hin, hout⟩ := run_append (ty := ty) hu hT hX hXi hsrc olds holdD hle h63 hfit
  have hsz2 : ∀ p ∈ es ++ ys, p.cells.length = e.size := fun p hp => (List.mem_append.1 hp).elim (hsz p) (hsrc.hsz p)
  have hlen2 : (es ++ ys).length = es.length + ys.length := List.length_append
  by_cases hfits : es.length + ys.length ≤ cap
  · have hin := hin hfits
    by_cases hy : ys = []
    · subst hy
      have hnew : news = #[] := Array.eq_empty_of_size_eq_zero (by have := hsrc.size; simpa using this)
      subst hnew
      refine ⟨.slice av es.length cap, w, G.K, ?_, ?_, .refl _ _ _ _⟩
      · rw [hin]; cases av <;> simp [storeCells]
      · rw [List.append_nil]
        have hsl : ∀ j b, ownSlot (.slice av es.length cap) (.sl o e.size es) j = some b → j = 0 ∧ ownB (.slice av es.length cap) (.sl o e.size es) = some b := by
          intro j b hb; unfold ownSlot at hb; simp only at hb; split at hb
          · exact ⟨‹_›, hb⟩
          · cases hb
        exact hs.set hd (.one hv) trivial (fun j b hb => ⟨(hfree b (hsl j b hb).2).1, fun l hl => absurd hl ((hfree b (hsl j b hb).2).2 l)⟩) (fun j1 j2 b h1 h2 => by rw [(hsl j1 b h1).1, (hsl j2 b h2).1])
    · have hy0 : 0 < ys.length := List.length_pos_iff.2 hy
      obtain ⟨ad, rfl, hsp, hob, hKw, hKx, hspare, hspx⟩ := hroom (by omega)
      obtain ⟨hnF, hno⟩ := hfree _ hob
      obtain ⟨arr, T, fz, a1, a2, a3⟩ := hspare
      have hmul : (es.length + ys.length) * e.size ≤ cap * e.size := Nat.mul_le_mul_right _ hfits
      rw [Nat.add_mul] at hmul
      have hnl : news.toList.length = ys.length * e.size := by simp [hsrc.size]
      have hcellb : ∀ j, w.cell? ⟨ad.block, j, none⟩ = arr[j]? := fun j => by simp [World.cell?, a1]
      have hone : ∀ u ∈ news.toList, u.oneCell' = true := by
        intro u hu'
        obtain ⟨j, hj, rfl⟩ := List.getElem_of_mem hu'
        have hj' : j < (flat ys).length := by rw [flat_length hsrc.hsz]; omega
        obtain ⟨u', h1, h2⟩ := hsrc.rep j (flat ys)[j] (by simp [hj'])
        have : news.toList[j] = u' := by
          have hj2 : j < news.size := by simpa using hj
          have := Array.getElem?_eq_getElem hj2
          rw [this] at h1; cases h1; simp
        rw [this]
        exact one_of_P h2 (hone1 _ (List.getElem_mem hj'))
      have hrun := run_storeCells_cells (P := P) ad.block (ad.off + es.length * e.size) news.toList 0 w (fun j hj => by
        rw [Nat.add_zero, hcellb]
        have : ad.off + es.length * e.size + j < arr.size := by omega
        simp [this]) (fun j hj => by rw [Nat.add_zero]; exact a3 _ (by omega) (by omega)) hone
      rw [Nat.add_zero] at hrun
      have hadd : ad.add (es.length * e.size) = ⟨ad.block, ad.off + es.length * e.size, none⟩ := add_eq hsp _
      have hblt : ad.block < w.heap.size := (Array.getElem?_eq_some_iff.1 a1).1
      have hK0 : G.K ad.block = kOf o (ad.off + es.length * e.size) := by
        cases o with
        | sh => exact absurd rfl ho
        | ow => exact hKw rfl
        | ex => exact (hKx rfl).1
      have hnb : ∀ b i, G.K b = .box i → b ≠ ad.block := fun b i hb e => by rw [e, hK0] at hb; cases o <;> cases hb
      have hnk : ∀ b, G.K b = .keep → b ≠ ad.block := fun b hb e => by rw [e, hK0] at hb; cases o <;> cases hb
      obtain ⟨s1, s2, s3, s4⟩ := sc_same ad.block news.toList (ad.off + es.length * e.size) w
      have hout' : ∀ j, j < ad.off + es.length * e.size → (w.setCells ad.block (ad.off + es.length * e.size) news.toList).cell? ⟨ad.block, j, none⟩ = w.cell? ⟨ad.block, j, none⟩ :=
        fun j hj => World.cell?_setCells_out _ _ _ _ _ fun _ _ => .inl hj
      have hin' : ∀ j, j < ys.length * e.size → (w.setCells ad.block (ad.off + es.length * e.size) news.toList).cell? ⟨ad.block, ad.off + es.length * e.size + j, none⟩ = some (news.getD j undef) := by
        intro j hj
        have hj' : j < news.toList.length := by omega
        rw [World.cell?_setCells_in _ _ _ _ (fun j hj => by
          rw [hcellb]
          have : ad.off + es.length * e.size + j < arr.size := by omega
          simp [this]) j hj']
        have : j < news.size := by simpa using hj'
        simp [this]
      have hle' : ImmLe G.K w (upd G.K ad.block (kOf o (ad.off + (es.length + ys.length) * e.size))) (w.setCells ad.block (ad.off + es.length * e.size) news.toList) := by
        intro b p hb
        by_cases hbe : b = ad.block
        · subst hbe
          rw [hK0] at hb
          cases o with
          | sh => exact absurd rfl ho
          | ow => cases hb; exact ⟨_, by rw [Nat.add_mul]; omega, upd_same _ _ _, fun j hj => hout' j hj⟩
          | ex => cases hb
        · exact ⟨p, Nat.le_refl _, by rw [upd_ne _ _ hbe]; exact hb, fun j _ => cell_eq (sc_other _ _ _ _ _ hbe)⟩
      have hs1 := hs.world2 hle' (by omega) (fun l b hl => by
          have hbe : b ≠ ad.block := fun e => hno l (e ▸ hl)
          exact ⟨sc_other _ _ _ _ _ hbe, upd_ne _ _ hbe⟩) (fun b hb => by
          have hbe : b ≠ ad.block := hb.elim (fun ⟨i, hi⟩ => hnb b i hi) (hnk b)
          exact ⟨sc_other _ _ _ _ _ hbe, upd_ne _ _ hbe⟩) (fun b hb => by
          rw [s1]
          by_cases hbe : b = ad.block
          · subst hbe; exact hblt
          · rw [upd_ne _ _ hbe] at hb; exact hs.kfree b hb)
      have hrep2 : ∀ (j : Nat) c, (flat (es ++ ys))[j]? = some c → RepP (upd G.K ad.block (kOf o (ad.off + (es.length + ys.length) * e.size))) (w.setCells ad.block (ad.off + es.length * e.size) news.toList) (if j < es.length * e.size then vs j else news.getD (j - es.length * e.size) undef) c := by
        intro j c hc
        rcases flat_get_app hsz hc with ⟨h1, h2⟩ | ⟨h1, h2⟩
        · rw [if_pos h1]; exact (hrep j c h2).mono hle'
        · rw [if_neg (by omega)]
          obtain ⟨v', h3, h4⟩ := hsrc.rep _ c h2
          have : news.getD (j - es.length * e.size) undef = v' := by
            have hj := (Array.getElem?_eq_some_iff.1 h3).1
            rw [Array.getElem?_eq_getElem hj] at h3; cases h3; simp [hj]
          rw [this]; exact h4.mono hle'
      have hcell2 : ∀ j, j < (es ++ ys).length * e.size → (w.setCells ad.block (ad.off + es.length * e.size) news.toList).cell? ⟨ad.block, ad.off + j, none⟩ = some (if j < es.length * e.size then vs j else news.getD (j - es.length * e.size) undef) := by
        intro j hj
        rw [hlen2, Nat.add_mul] at hj
        by_cases hj1 : j < es.length * e.size
        · rw [if_pos hj1, hout' _ (by omega)]
          rcases hat with rfl | ⟨ad', he', _, hc'⟩
          · simp at hj1
          · cases he'; exact hc' j hj1
        · rw [if_neg hj1]
          have := hin' (j - es.length * e.size) (by omega)
          rw [show ad.off + es.length * e.size + (j - es.length * e.size) = ad.off + j by omega] at this
          exact this
      have hval : RepO ⟨upd G.K ad.block (kOf o (ad.off + (es.length + ys.length) * e.size)), G.bs⟩ (w.setCells ad.block (ad.off + es.length * e.size) news.toList) (.slice (some ad) (es ++ ys).length cap) (.sl o e.size (es ++ ys)) := by
        cases o with
        | sh => exact absurd rfl ho
        | ow =>
          refine .ow _ cap e.size _ (.sl ad cap e.size (ad.off + (es.length + ys.length) * e.size) (es ++ ys) _ hsp (upd_same _ _ _) (by rw [hlen2]; exact Nat.le_refl _) (by omega) hsz2 hcell2 hrep2) fun _ => ⟨ad, rfl, hsp, ?_, ?_⟩
          · rw [hlen2]; exact upd_same _ _ _
          · rw [hlen2]; exact (sc_spare (w := w) ⟨arr, T, fz, a1, a2, a3⟩ _ _ _).sub (by rw [Nat.add_mul]; omega) (Nat.le_refl _)
        | ex =>
          obtain ⟨_, h0⟩ := hKx rfl
          obtain ⟨b, off, sp⟩ := ad
          simp only at h0 hsp
          subst h0; subst hsp
          exact .ex b cap e.size _ _ (upd_same _ _ _) (by omega) (by omega) (sc_spare (hspx rfl) _ _ _) hsz2 (fun j hj => by have := hcell2 j hj; simpa using this) hrep2
      have hsl : ∀ j b, ownSlot (.slice (some ad) (es ++ ys).length cap) (.sl o e.size (es ++ ys)) j = some b → j = 0 ∧ b = ad.block := by
        intro j b hb; unfold ownSlot at hb; simp only at hb; split at hb
        · refine ⟨‹_›, ?_⟩
          cases o <;> simp only [ownB] at hb <;> first | (cases hb; done) | (split at hb <;> first | (cases hb; rfl) | cases hb)
        · cases hb
      refine ⟨.slice (some ad) (es ++ ys).length cap, _, _, ?_, hs1.set hd (.one hval) trivial (fun j b hb => ?_) (fun j1 j2 b h1 h2 => by rw [(hsl j1 b h1).1, (hsl j2 b h2).1]), ⟨s2, s3, s4, by omega, fun b hb => ?_, hle', fun _ _ => rfl⟩⟩
      · rw [hin, hlen2]; simp only [hadd, hrun, Result.andThen_ok]
      · obtain ⟨_, rfl⟩ := hsl j b hb
        exact ⟨hnF, fun l hl => absurd (by rw [own_same hs fun b i hb => sc_other _ _ _ _ _ (hnb b i hb)] at hl; exact hl) (hno l)⟩
      · have hbe : b ≠ ad.block := fun e => hnF (e ▸ hb)
        exact ⟨sc_other _ _ _ _ _ hbe, upd_ne _ _ hbe⟩
  · obtain ⟨zs, hzs, hrun⟩ := hout hfits
    have hcap : es.length + ys.length ≤ grownCap w (es.length + ys.length) cap eT := grownCap_ge _ _ _ _
    have hs0 := hs.drew
    have hs1 := hs0.alloc (.cells (olds ++ news ++ zs) eT) (kOf o ((es ++ ys).length * e.size))
    have hle' := ImmLe.alloc hs0 (.cells (olds ++ news ++ zs) eT) (kOf o ((es ++ ys).length * e.size))
    have hdr : ImmLe G.K w G.K w.drew := fun b p hb => ⟨p, Nat.le_refl _, hb, fun _ _ => rfl⟩
    have harr : (olds ++ news ++ zs).size = grownCap w (es.length + ys.length) cap eT * e.size := by
      simp only [Array.size_append, holds, hsrc.size, hzs]
      rw [← Nat.add_mul, ← Nat.add_mul]; congr 1; omega
    have hfs := fresh_slice (G := G) (w := w.drew) (o := o) (cap := grownCap w (es.length + ys.length) cap eT) (T := eT) (fz := (0, 0)) (es := es ++ ys) (sz := e.size) (by rw [hlen2]; exact hcap) hsz2 (arr := olds ++ news ++ zs) (by rw [harr]; exact Nat.le_refl _)
      (w' := w.drew.alloc (.cells (olds ++ news ++ zs) eT)) (heap_alloc_new _ _) (fun j _ => World.frozen?_alloc_new _ _ _ j) (fun j c hc => by
        rcases flat_get_app hsz hc with ⟨h1, h2⟩ | ⟨h1, h2⟩
        · obtain ⟨v, h3, h4⟩ := holdr j c h2
          refine ⟨v, ?_, (h4.mono hdr).mono hle'⟩
          rw [Array.append_assoc, Array.getElem?_append_left (by omega)]; exact h3
        · obtain ⟨v, h3, h4⟩ := hsrc.rep _ c h2
          refine ⟨v, ?_, (h4.mono hdr).mono hle'⟩
          have := (Array.getElem?_eq_some_iff.1 h3).1
          rw [Array.append_assoc, Array.getElem?_append_right (by omega), holds, Array.getElem?_append_left this]; exact h3)
    refine ⟨.slice (some ⟨w.heap.size, 0, none⟩) (es ++ ys).length (grownCap w (es.length + ys.length) cap eT), w.drew.alloc (.cells (olds ++ news ++ zs) eT), upd G.K w.drew.heap.size (kOf o ((es ++ ys).length * e.size)), ?_, ?_, (Evol.drew hs).trans (Evol.alloc hs0 _ _ _ fun _ _ => rfl)⟩
    · rw [hrun, hlen2]
    · refine Sim.setFresh (w := w.drew) hs1 hd hfs (fun l hl => ?_) (fun hF => absurd (hs.frlt _ hF) (Nat.lt_irrefl _))
      rw [own_same hs0 (fun b i hb => heap_alloc_lt _ _ (hs0.kfree b (by rw [hb]; simp)))] at hl
      exact absurd (own_lt hs0 hl) (Nat.lt_irrefl _)

theorem run_app {a : Act} {w w' : World} {v' : Value} {d' : Option Nat} {x y : Operand} {tS tX : TypeId} (h : (Builtin.append_ #[tS, tX] ty #[a.eval x, a.eval y]).run P w = .ok v' w') :
    (execOp a.eval ⟨d', .call ⟨.builtin .append, #[x, y], #[tS, tX]⟩, ty, pos, after, none⟩).run P w = .ok (.value v') w' := by
  simp [execOp, resolve, invoke, builtin, h]

/-- An append onto a slice of one's own. -/
theorem op_append (ht : TabOK P tt) {tb : Nat} {xo : Operand} {tS tX : TypeId} {o : Own} {sz : Nat} {es ys : List PV} {e : TI} (hb : look env tb = .sl o sz es) (ho : (PV.sl o sz es).isOwn = true) (he : eti tt tS = some e) (hez : e.size = sz)
    {i : TI} {eX : Nat} (hX : tl tt tX = some i) (hXi : i.desc = .slice eX) (hx : opv tt env tX xo = .sl .sh sz ys)
    (hfit : (es.length + ys.length) * (e.bytes + 1) ≤ 140737488355328) (hone : (flat ys).all PV.one = true) (hd : d < n)
    (h : SatOps P l n m all rest ((d, .sl o sz (es ++ ys)) :: (tb, left1 (.sl o sz es)) :: env) σ Q) :
    SatOps P l n m all (⟨some d, .call ⟨.builtin .append, #[.tmp tb, xo], #[tS, tX]⟩, ty, pos, after, none⟩ :: rest) env σ Q := by
  refine op_gen rfl (by simp) fun F G a w hs => ?_
  obtain ⟨h1, h2, h3⟩ := hs.take hb ho
  obtain ⟨eT, hu, hT⟩ := eti_ok ht he
  have hxo := opv_ok hs tt tX xo
  rw [hx] at hxo
  obtain ⟨news, hsrc⟩ := Src.sl (P := P) ((hxo.toS rfl).slv)
  rw [Nat.mul_add, Nat.mul_one] at hfit
  obtain ⟨v', w', K', hr, hs', hev⟩ := append_core (d := d) (ty := ty) h1 (by cases o <;> first | (cases ho; done) | simp) h2 h3 hsrc hu hT hez (ht _ _ hX).und (by rw [hXi]; simp) (by omega) (by omega) (List.all_eq_true.1 hone) hd
  exact ⟨v', w', _, _, σ, .inl (run_app hr), hs', hev, h⟩

/-- An append of a text's bytes. -/
theorem op_appendStr (ht : TabOK P tt) {tb : Nat} {xo : Operand} {tS tX : TypeId} {o : Own} {es : List PV} {s : ByteArray} {e : TI} (hb : look env tb = .sl o 1 es) (ho : (PV.sl o 1 es).isOwn = true) (he : eti tt tS = some e) (hez : e.size = 1)
    {i : TI} (hX : tl tt tX = some i) (hXi : i.desc = .string) (hx : opv tt env tX xo = .str s)
    (hfit : (es.length + s.size) * (e.bytes + 1) ≤ 140737488355328) (hd : d < n)
    (h : SatOps P l n m all rest ((d, .sl o 1 (es ++ bytesP s)) :: (tb, left1 (.sl o 1 es)) :: env) σ Q) :
    SatOps P l n m all (⟨some d, .call ⟨.builtin .append, #[.tmp tb, xo], #[tS, tX]⟩, ty, pos, after, none⟩ :: rest) env σ Q := by
  refine op_gen rfl (by simp) fun F G a w hs => ?_
  obtain ⟨h1, h2, h3⟩ := hs.take hb ho
  obtain ⟨eT, hu, hT⟩ := eti_ok ht he
  have hxo := opv_ok hs tt tX xo
  rw [hx] at hxo
  have ex := (hxo.toS rfl).str
  obtain ⟨news, hsrc⟩ := Src.str (P := P) (K := G.K) (w := w) s
  rw [Nat.mul_add, Nat.mul_one] at hfit
  have hbl := bytesP_len s
  obtain ⟨v', w', K', hr, hs', hev⟩ := append_core (d := d) (ty := ty) h1 (by cases o <;> first | (cases ho; done) | simp) h2 h3 hsrc hu hT hez (ht _ _ hX).und (by rw [hXi]; simp) (by omega) (by rw [hbl]; omega) (by
    rw [bytesP, flat_one encB (fun _ => rfl)]; intro c hc; obtain ⟨b, _, rfl⟩ := List.mem_map.1 hc; rfl) hd
  exact ⟨v', w', _, _, σ, .inl (run_app (by rw [ex]; exact hr)), hs', hev, h⟩

theorem all_one_map {α : Type} (f : α → PV) (h : ∀ x, (f x).cells.all PV.one = true) (l : List α) : (flat (l.map f)).all PV.one = true := by
  induction l with
  | nil => rfl
  | cons x r ih => simp only [List.map_cons, flat, List.all_append, h, ih, Bool.and_self]

end
end Go.Proofs.Ytflgoabdgibphaa.Pv
