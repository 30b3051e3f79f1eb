/- Bytes: rows of bytes in boxes and texts; copies; what a box holds, once it turns no more. -/
import Derived.Test.YtflgoabdgibphaaPvZf
import Derived.Lib.ConvBytes
namespace Go.Proofs.Ytflgoabdgibphaa.Pv
open Go
set_option linter.unusedVariables false
set_option linter.unusedSimpArgs false

/-- A text's bytes, as numbers. -/
def bi (s : ByteArray) : List Int := s.data.toList.map fun b => (b.toNat : Int)
/-- The text of bytes. -/
def ofI (xs : List Int) : ByteArray := ⟨(xs.map fun n => UInt8.ofNat n.toNat).toArray⟩

theorem bi_len (s : ByteArray) : (bi s).length = s.size := by simp [bi]
theorem ofI_size (xs : List Int) : (ofI xs).size = xs.length := by simp [ofI, ByteArray.size]
theorem ofI_bi (s : ByteArray) : ofI (bi s) = s := by
  cases s with
  | mk d =>
    simp only [ofI, bi, List.map_map]
    congr 1
    rw [← Array.toList_inj]
    have : ((fun n : Int => UInt8.ofNat n.toNat) ∘ fun b : UInt8 => (b.toNat : Int)) = id := by funext b; simp
    rw [this]; simp
theorem bi_inj {s t : ByteArray} (h : bi s = bi t) : s = t := by rw [← ofI_bi s, h, ofI_bi]
theorem bi_ofI {xs : List Int} (h : ∀ x ∈ xs, 0 ≤ x ∧ x ≤ 255) : bi (ofI xs) = xs := by
  simp only [bi, ofI, List.map_map]
  conv => rhs; rw [← List.map_id xs]
  refine List.map_congr_left fun x hx => ?_
  have := h x hx
  simp only [Function.comp_apply, id_eq, UInt8.toNat_ofNat']
  omega
theorem bi_mem {s : ByteArray} {x : Int} (h : x ∈ bi s) : 0 ≤ x ∧ x ≤ 255 := by
  obtain ⟨b, _, rfl⟩ := List.mem_map.1 h
  have := b.toNat_lt
  omega
theorem bytesP_bi (s : ByteArray) : bytesP s = (bi s).map (.int .u8) := by
  simp only [bytesP, bi, List.map_map]; rfl
theorem bt_bi (s : ByteArray) (i : Int) : bt s i = (bi s).getD i.toNat 0 := by
  simp only [bt, bi, List.getD, List.getElem?_map]
  cases s.data.toList[i.toNat]? <;> rfl
theorem bi_append (s t : ByteArray) : bi (s ++ t) = bi s ++ bi t := by simp [bi, ByteArray.data_append]
theorem bi_empty : bi ByteArray.empty = [] := rfl
theorem bi_extract (s : ByteArray) (a b : Nat) : bi (s.extract a b) = ((bi s).take b).drop a := by
  rw [cut_eq]; simp [bi, ByteArray.data_extract, List.map_drop, List.map_take]
theorem foldl_ofI : ∀ (xs : List Int) (s : ByteArray), xs.foldl (fun r n => r.push (UInt8.ofNat n.toNat)) s = s ++ ofI xs
  | [], s => by apply bi_inj; rw [bi_append]; simp [ofI, bi]
  | x :: xs, s => by
    rw [List.foldl_cons, foldl_ofI xs]
    cases s with
    | mk d =>
      apply ByteArray.ext
      simp [ofI, ByteArray.push, ByteArray.data_append]
theorem ofI_eq (xs : List Int) : xs.foldl (fun r n => r.push (UInt8.ofNat n.toNat)) ByteArray.empty = ofI xs := by
  rw [foldl_ofI]; apply bi_inj; rw [bi_append]; rfl

/-- Some laid over others. -/
def ovl {α : Type} (xs : List α) (o : Nat) (ys : List α) : List α := xs.take o ++ ys ++ xs.drop (o + ys.length)
theorem ovl_len {α : Type} {xs ys : List α} {o : Nat} (h : o + ys.length ≤ xs.length) : (ovl xs o ys).length = xs.length := by
  simp [ovl]; omega
theorem ovl_get {α : Type} {xs ys : List α} {o : Nat} (h : o + ys.length ≤ xs.length) (j : Nat) : (ovl xs o ys)[j]? = if o ≤ j ∧ j < o + ys.length then ys[j - o]? else xs[j]? := by
  simp only [ovl, List.append_assoc]
  by_cases h1 : j < o
  · rw [if_neg (by omega), List.getElem?_append_left (by simp; omega), List.getElem?_take, if_pos h1]
  · rw [List.getElem?_append_right (by simp; omega)]
    have e : j - (xs.take o).length = j - o := by simp; omega
    rw [e]
    by_cases h2 : j < o + ys.length
    · rw [if_pos ⟨by omega, h2⟩, List.getElem?_append_left (by omega)]
    · rw [if_neg (by omega), List.getElem?_append_right (by omega), List.getElem?_drop]
      congr 1; omega
theorem putAt_ovl {l : List PV} {o : Nat} {xs : List PV} (h : o + xs.length ≤ l.length) : putAt l o xs = ovl l o xs := by
  obtain ⟨h1, h2⟩ := putAt_get l o xs h
  refine List.ext_getElem? fun j => ?_
  rw [h2, ovl_get h]
theorem ovl_map {α β : Type} (f : α → β) (xs ys : List α) (o : Nat) : ovl (xs.map f) o (ys.map f) = (ovl xs o ys).map f := by
  simp [ovl, List.map_take, List.map_drop]

/-- Elements of one cell that are copied or turned into a text: they are read from a text, a row that does not turn, or a box. -/
structure SrcM {α : Type} (f : α → PV) (tt : TT) (σ : Sto) (p : PV) (ys : List α) : Prop where
  h : (∃ s, p = .str s ∧ ys.map f = bytesP s) ∨ p = .sl .sh 1 (ys.map f) ∨ ∃ (i off len cap : Nat) (zs : List α), p = .bsl i off 1 len cap ∧ σ[i]? = some (.cells (zs.map f)) ∧ off + len ≤ zs.length ∧ ys = (zs.drop off).take len

theorem srcM_str {tt : TT} {σ : Sto} {s : ByteArray} : SrcM (PV.int .u8) tt σ (.str s) (bi s) := ⟨.inl ⟨s, rfl, (bytesP_bi s).symm⟩⟩
theorem srcM_sl {α : Type} {f : α → PV} {tt : TT} {σ : Sto} {ys : List α} : SrcM f tt σ (.sl .sh 1 (ys.map f)) ys := ⟨.inr (.inl rfl)⟩
theorem srcM_box {α : Type} {f : α → PV} {tt : TT} {σ : Sto} {i off len cap : Nat} {zs : List α} (h1 : σ[i]? = some (.cells (zs.map f))) (h2 : off + len ≤ zs.length) : SrcM f tt σ (.bsl i off 1 len cap) ((zs.drop off).take len) :=
  ⟨.inr (.inr ⟨i, off, len, cap, zs, rfl, h1, h2, rfl⟩)⟩

section
variable {P : Program} {l : Option Nat} {tt : TT} {n m : Nat} {all : Array Oper} {rest : List Oper} {env : Env} {σ : Sto} {Q : Post} {d : Nat} {dd : Option Nat} {ty : TypeId} {pos : String} {after : Array Edge} {g : Option (Nat × Bool)}

theorem lk_fieldAddrB (ht : TabOK P tt) {sT : TypeId} {f off b o k : Nat} {x : Operand} {i : TI} (hf : fld tt sT f = some (off, i)) (hx : opv tt env sT x = .ptr b o) (hs : Nat.beq i.size 0 = false) (hk : o + off = k) :
    LookAt P n m env σ ⟨dd, .fieldAddr sT x f, ty, pos, after, g⟩ (.ptr b k) :=
  LookAt.norm (LookAt.of (fun F G a w h => look_fieldAddr ht h) (c := i.size ≠ 0) (by rw [hx]; simp only [fieldAddrP, hf, hk]) (fun e => by rw [e] at hs; cases hs))

/-- The cells that a source has, as they are read. -/
theorem srcM_run {α : Type} {f : α → PV} (hone : ∀ x, (f x).cells = [f x]) {F : Nat → Prop} {G : Gh} {a : Act} {w : World} (hs : Sim n m F G env σ a w) (hpl : ∀ x, (f x).pl = true) {v : Value} {p : PV} {ys : List α} (hr : RepN G w v p) (h : SrcM f tt σ p ys) :
    (Builtin.lenOf v).run P w = .ok ys.length w ∧ ∀ k, k ≤ ys.length → ∃ news : Array Value, (Builtin.firstCells 1 k v).run P w = .ok news w ∧ news.size = k ∧ ∀ (j : Nat) u c, news[j]? = some u → ((ys.take k).map f)[j]? = some c → RepP G.K w u c := by
  have gen : ∀ (ad : Addr) (cap : Nat) (vs : Nat → Value) (len : Nat), ys.length = len → ad.spot = none → (∀ j, j < len → w.cell? ⟨ad.block, ad.off + j, none⟩ = some (vs j)) → (∀ j c, (ys.map f)[j]? = some c → RepP G.K w (vs j) c) →
      (Builtin.lenOf (.slice (some ad) len cap)).run P w = .ok ys.length w ∧ ∀ k, k ≤ ys.length → ∃ news : Array Value, (Builtin.firstCells 1 k (.slice (some ad) len cap)).run P w = .ok news w ∧ news.size = k ∧ ∀ (j : Nat) u c, news[j]? = some u → ((ys.take k).map f)[j]? = some c → RepP G.K w u c := by
    intro ad cap vs len hl hsp hv hrr
    refine ⟨by simp [Builtin.lenOf, hl], fun k hk => ⟨((List.range k).map vs).toArray, ?_, by simp, fun j u c hu hc => ?_⟩⟩
    · simp only [Builtin.firstCells, Nat.mul_one]
      exact run_loadCells w ad k vs fun j hj => by rw [add_eq hsp]; exact hv j (by omega)
    · rw [List.map_take, List.getElem?_take] at hc
      split at hc
      · rename_i hj
        simp [hj] at hu
        subst hu
        exact hrr j c hc
      · cases hc
  rcases h.h with ⟨s, rfl, hys⟩ | rfl | ⟨i, off, len, cap, zs, rfl, hi, hle, rfl⟩
  · have ev := (hr.toS rfl).str
    subst ev
    have hl : ys.length = s.size := by have := congrArg List.length hys; simpa [bytesP] using this
    refine ⟨by simp [Builtin.lenOf, hl], fun k hk => ⟨(s.extract 0 k).data.map fun b => .int .u8 b.toNat, by simp [Builtin.firstCells], by simp [ByteArray.data_extract]; rw [hl] at hk; omega, fun j u c hu hc => ?_⟩⟩
    rw [List.map_take, hys, List.getElem?_take] at hc
    split at hc
    · rename_i hj
      rw [bytesP, List.getElem?_map, Option.map_eq_some_iff] at hc
      obtain ⟨b, hb, rfl⟩ := hc
      rw [Array.getElem?_map, Option.map_eq_some_iff] at hu
      obtain ⟨b', hb', rfl⟩ := hu
      have : b' = b := by
        rw [ByteArray.data_extract, Array.getElem?_extract] at hb'
        split at hb'
        · rw [Nat.zero_add] at hb'
          rw [← Array.getElem?_toList] at hb'
          rw [hb] at hb'
          exact (Option.some.inj hb').symm
        · cases hb'
      subst this
      exact .int _ _
    · cases hc
  · obtain ⟨ad, cap, rfl, hes⟩ := ((hr.toS rfl).slv).slv
    rcases hes with e | ⟨ad', p', vs, rfl, hsp, hK, hp, hcap, hz, hv, hrr⟩
    · have : ys = [] := by cases ys with
        | nil => rfl
        | cons => simp at e
      subst this
      refine ⟨by simp [Builtin.lenOf], fun k hk => ?_⟩
      have hk0 : k = 0 := by simpa using hk
      subst hk0
      refine ⟨#[], ?_, rfl, fun j u c hu => by simp at hu⟩
      cases ad <;> simp [Builtin.firstCells, loadCells, loadCellsFrom]
    · rw [List.length_map] at hv ⊢
      refine gen ad' cap vs ys.length rfl hsp (fun j hj => hv j (by omega)) fun j c hc => ?_
      refine hrr j c ?_
      rw [flat_one f hone]; exact hc
  · obtain ⟨ad, cap', rfl, c1, c2, c3⟩ := (hr.toS rfl).bslv
    obtain ⟨hK, hsp, hcell⟩ := hs.sto i _ hi
    by_cases h0 : len = 0
    · subst h0
      rw [List.take_zero]
      refine ⟨by simp [Builtin.lenOf], fun k hk => ?_⟩
      have hk0 : k = 0 := by simpa using hk
      subst hk0
      refine ⟨#[], ?_, rfl, fun j u c hu => by simp at hu⟩
      cases ad <;> simp [Builtin.firstCells, loadCells, loadCellsFrom]
    · have c3 := c3.resolve_left (by omega)
      subst c3
      have hvals : ∀ j : Nat, ∃ v, j < len → w.cell? ⟨G.bs i, off + j, none⟩ = some v ∧ ∀ c, (zs.map f)[off + j]? = some c → RepP G.K w v c := by
        intro j
        by_cases hj : j < len
        · have hlt : off + j < zs.length := by omega
          obtain ⟨v, h1, h2⟩ := hcell (off + j) (f zs[off + j]) (by simp [hlt])
          refine ⟨v, fun _ => ⟨h1, fun c hc => ?_⟩⟩
          have hcc : c = f zs[off + j] := by simpa [hlt] using hc.symm
          subst hcc
          exact (h2.toS (pl_isS (hpl _))).plain (hpl _)
        · exact ⟨undef, fun h => absurd h hj⟩
      obtain ⟨vs, hvs⟩ := Classical.axiomOfChoice hvals
      refine gen ⟨G.bs i, off, none⟩ cap' vs len (by simp; omega) rfl (fun j hj => (hvs j hj).1) fun j c hc => ?_
      rw [List.map_take, List.map_drop, List.getElem?_take] at hc
      split at hc
      · rename_i hj
        rw [List.getElem?_drop] at hc
        exact (hvs j hj).2 c hc
      · cases hc

/-- A copy into a row in a box. -/
theorem op_copyM {α : Type} (f : α → PV) (hone : ∀ x, (f x).cells = [f x]) (hpl : ∀ x, (f x).pl = true) (h1 : ∀ x, (f x).one = true) (ht : TabOK P tt) {tD tS : TypeId} {x y : Operand} {e : TI} {i off len cap : Nat} {xs ys : List α} {q : PV} (he : eti tt tD = some e) (hsz : Nat.beq e.size 1 = true)
    (hx : opv tt env tD x = .bsl i off 1 len cap) (hi : σ[i]? = some (.cells (xs.map f))) (hq : opv tt env tS y = q) (hy : SrcM f tt σ q ys) (hle : off + len ≤ xs.length) (hd : Nat.ble (d + 1) n = true)
    (h : SatOps P l n m all rest ((d, .int .i64 (min ys.length len : Nat)) :: env) (σ.set i (.cells ((ovl xs off (ys.take len)).map f))) Q) :
    SatOps P l n m all (⟨some d, .call ⟨.builtin .copy, #[x, y], #[tD, tS]⟩, ty, pos, after, none⟩ :: rest) env σ Q := by
  refine op_gen rfl (by simp) fun F G a w hs => ?_
  have hsz := Nat.eq_of_beq_eq_true hsz
  have hxo := opv_ok hs tt tD x
  have hyo := opv_ok hs tt tS y
  rw [hx] at hxo
  rw [hq] at hyo
  obtain ⟨ad, cap', ex, c1, c2, c3⟩ := (hxo.toS rfl).bslv
  obtain ⟨eT, hu, hT⟩ := eti_ok ht he
  obtain ⟨r1, r2⟩ := srcM_run (P := P) (tt := tt) hone hs hpl hyo hy
  obtain ⟨news, r3, r4, r5⟩ := r2 (min ys.length len) (Nat.min_le_left _ _)
  have hz := hT.rsize w
  have htk : ys.take (min ys.length len) = ys.take len := by rw [Nat.min_comm, List.take_eq_take_min, Nat.min_comm]; simp [Nat.min_comm]
  rw [htk] at r5
  have hlen : ((ys.take len).map f).length = min ys.length len := by simp [Nat.min_comm]
  have fin : ∀ w', (execOp a.eval ⟨some d, .call ⟨.builtin .copy, #[x, y], #[tD, tS]⟩, ty, pos, after, none⟩).run P w = .ok (.value (.int .i64 (min ys.length len : Nat))) w' → Sim n m F G env (σ.set i (.cells ((ovl xs off (ys.take len)).map f))) a w' → Evol m F G w G w' → ∃ v w' G' env' σ', ((execOp a.eval ⟨some d, .call ⟨.builtin .copy, #[x, y], #[tD, tS]⟩, ty, pos, after, none⟩).run P w = .ok (.value v) w' ∨ ((execOp a.eval ⟨some d, .call ⟨.builtin .copy, #[x, y], #[tD, tS]⟩, ty, pos, after, none⟩).run P w = .ok .skip w' ∧ v = undef)) ∧
      Sim n m F G' env' σ' (a.put (some d) v) w' ∧ Evol m F G w G' w' ∧ SatOps P l n m all rest env' σ' Q := fun w' hrun hsim hev =>
    ⟨_, w', G, _, _, .inl hrun, hsim.setS (ltn hd) (.pl (.int _ _)) trivial, hev, h⟩
  by_cases h0 : min ys.length len = 0
  · have hnil : ys.take len = [] := by rw [← List.length_eq_zero_iff, List.length_take]; omega
    have hσ : σ.set i (.cells ((ovl xs off (ys.take len)).map f)) = σ := by
      have : ovl xs off (ys.take len) = xs := by rw [hnil]; simp [ovl]
      rw [this]
      refine List.ext_getElem? fun j => ?_
      rw [List.getElem?_set]
      split
      · rename_i e; subst e; rw [hi]; simp [(List.getElem?_eq_some_iff.1 hi).1]
      · rfl
    have hn : news = #[] := Array.eq_empty_of_size_eq_zero (by rw [r4, h0])
    subst hn
    rw [h0] at r3
    refine fin w ?_ (by rw [hσ]; exact hs) (.refl _ _ _ _)
    have hm : Nat.min ys.length len = 0 := h0
    rw [h0]
    cases ad <;> simp [execOp, resolve, invoke, builtin, Builtin.copy_, underlying, hu, ex, r1, hm, hz, hsz, r3, storeCells, goInt]
  · have hl0 : len ≠ 0 := fun e => h0 (by rw [e]; simp)
    have c3 := c3.resolve_left (by omega)
    subst c3
    obtain ⟨w1, w2, w3⟩ := hs.boxWrite (P := P) hi off news.toList ((ys.take len).map f) (by rw [hlen]; simpa using r4) (fun j v c hv hc => .pl (r5 j v c (by simpa using hv) hc)) (by
        rw [ltAll_iff]; intro p hp
        obtain ⟨z, _, rfl⟩ := List.mem_map.1 hp
        exact pl_lt (hpl z) _) (by
        rw [List.all_eq_true]; intro p hp
        obtain ⟨z, _, rfl⟩ := List.mem_map.1 hp
        exact h1 z) (by rw [hlen, List.length_map]; omega)
    rw [putAt_ovl (by rw [hlen, List.length_map]; omega), ovl_map] at w2
    refine fin _ ?_ w2 w3
    have hm : Nat.min ys.length len = min ys.length len := rfl
    simp [execOp, resolve, invoke, builtin, Builtin.copy_, underlying, hu, ex, r1, hm, hz, hsz, r3, w1, goInt]

/-- A row in a box is cleared. -/
theorem op_clearM {α : Type} (f : α → PV) (v0 : α) (ht : TabOK P tt) {tD : TypeId} {x : Operand} {e : TI} {i off len cap : Nat} {xs : List α} (he : eti tt tD = some e) (hsz : Nat.beq e.size 1 = true) (hz0 : e.zero = [f v0])
    (hS : (f v0).isS = true) (h1 : (f v0).one = true) (hx : opv tt env tD x = .bsl i off 1 len cap) (hi : σ[i]? = some (.cells (xs.map f))) (hle : off + len ≤ xs.length) (h : SatOps P l n m all rest env (σ.set i (.cells ((ovl xs off (List.replicate len v0)).map f))) Q) :
    SatOps P l n m all (⟨none, .call ⟨.builtin .clear, #[x], #[tD]⟩, ty, pos, after, none⟩ :: rest) env σ Q := by
  refine op_gen rfl (by simp) fun F G a w hs => ?_
  have hsz := Nat.eq_of_beq_eq_true hsz
  have hxo := opv_ok hs tt tD x
  rw [hx] at hxo
  obtain ⟨ad, cap', ex, c1, c2, c3⟩ := (hxo.toS rfl).bslv
  unfold eti at he
  split at he
  · rename_i eT s1 b1 z1 hT
    have hu := (ht _ _ hT).und
    have hE := ht _ _ he
    obtain ⟨zv, hzr, i5⟩ := hE.rzero w
    rw [hz0] at i5
    obtain ⟨u, hu1, hu2⟩ : ∃ u, zv.cells.toList = [u] ∧ zc1 u (f v0) = true := by
      cases hq : zv.cells.toList with
      | nil => rw [hq] at i5; cases i5
      | cons u r =>
        rw [hq] at i5
        cases r with
        | nil => simp only [zcs, Bool.and_true] at i5; exact ⟨u, rfl, i5⟩
        | cons => simp [zcs] at i5
    have hcells : zv.cells = #[u] := by rw [← Array.toList_inj]; simpa using hu1
    have hpl : RepP G.K w u (f v0) := (zc1_rep (G := G) (w := w) hu2).2.2.resolve_left (fun e => by rw [e] at hS; cases hS)
    have hzl : (Builtin.zeroCells zv.cells len).toList = List.replicate len u := by
      refine List.ext_getElem? fun j => ?_
      rw [List.getElem?_replicate]
      simp only [Builtin.zeroCells, hcells]
      by_cases hj : j < len
      · simp [hj, Nat.mod_one]
      · simp [hj]
    have fin : ∀ w', (execOp a.eval ⟨none, .call ⟨.builtin .clear, #[x], #[tD]⟩, ty, pos, after, none⟩).run P w = .ok (.value (.tuple #[])) w' → Sim n m F G env (σ.set i (.cells ((ovl xs off (List.replicate len v0)).map f))) a w' → Evol m F G w G w' → ∃ v w' G' env' σ', ((execOp a.eval ⟨none, .call ⟨.builtin .clear, #[x], #[tD]⟩, ty, pos, after, none⟩).run P w = .ok (.value v) w' ∨ ((execOp a.eval ⟨none, .call ⟨.builtin .clear, #[x], #[tD]⟩, ty, pos, after, none⟩).run P w = .ok .skip w' ∧ v = undef)) ∧
      Sim n m F G' env' σ' (a.put none v) w' ∧ Evol m F G w G' w' ∧ SatOps P l n m all rest env' σ' Q := fun w' hrun hsim hev =>
      ⟨_, w', G, _, _, .inl hrun, hsim, hev, h⟩
    by_cases h0 : len = 0
    · subst h0
      have hσ : σ.set i (.cells ((ovl xs off (List.replicate 0 v0)).map f)) = σ := by
        have : ovl xs off (List.replicate 0 v0) = xs := by simp [ovl]
        rw [this]
        refine List.ext_getElem? fun j => ?_
        rw [List.getElem?_set]
        split
        · rename_i e; subst e; rw [hi]; simp [(List.getElem?_eq_some_iff.1 hi).1]
        · rfl
      refine fin w ?_ (by rw [hσ]; exact hs) (.refl _ _ _ _)
      cases ad <;> simp [execOp, resolve, invoke, builtin, Builtin.clear_, underlying, hu, ex]
    · have c3 := c3.resolve_left (by omega)
      subst c3
      have hlen : ((List.replicate len v0).map f).length = len := by simp
      obtain ⟨w1, w2, w3⟩ := hs.boxWrite (P := P) hi off (List.replicate len u) ((List.replicate len v0).map f) (by simp) (fun j v c hv hc => by
          rw [List.eq_of_mem_replicate (List.mem_of_getElem? hv)]
          obtain ⟨q, hq, rfl⟩ := List.mem_map.1 (List.mem_of_getElem? hc)
          rw [List.eq_of_mem_replicate hq]; exact .pl hpl) (by
          rw [ltAll_iff]; intro p hp
          obtain ⟨q, hq, rfl⟩ := List.mem_map.1 hp
          rw [List.eq_of_mem_replicate hq]; exact hpl.lt _) (by
          rw [List.all_eq_true]; intro p hp
          obtain ⟨q, hq, rfl⟩ := List.mem_map.1 hp
          rw [List.eq_of_mem_replicate hq]; exact h1) (by rw [hlen, List.length_map]; omega)
      rw [putAt_ovl (by rw [hlen, List.length_map]; omega), ovl_map] at w2
      refine fin _ ?_ w2 w3
      cases len with
      | zero => exact absurd rfl h0
      | succ len => simp [execOp, resolve, invoke, builtin, Builtin.clear_, underlying, hu, ex, hzr, hzl, w1]
  · cases he

def notStr : PV → Bool
  | .str _ => false
  | _ => true

/-- Bytes become a text. -/
theorem lk_bytesStr (ht : TabOK P tt) {src dst : TypeId} {x : Operand} {e i : TI} {q : PV} {ys : List Int} (he : eti tt src = some e) (hd1 : e.desc = .int .u8) (hi : tl tt dst = some i) (hd2 : i.desc = .string) (hx : opv tt env src x = q) (hy : SrcM (PV.int .u8) tt σ q ys) (hns : notStr q = true) :
    LookAt P n m env σ ⟨dd, .convert src dst x, ty, pos, after, g⟩ (.str (ofI ys)) := by
  refine ⟨fun F G a w hs => ?_⟩
  have hxo := opv_ok hs tt src x
  rw [hx] at hxo
  obtain ⟨eT, hu, hT⟩ := eti_ok ht he
  have hu2 := hT.und
  rw [hd1] at hu2
  have hu3 := (ht _ _ hi).und
  rw [hd2] at hu3
  obtain ⟨r1, r2⟩ := srcM_run (P := P) (tt := tt) (f := PV.int .u8) (fun _ => rfl) hs (fun _ => rfl) hxo hy
  obtain ⟨news, r3, r4, r5⟩ := r2 ys.length (Nat.le_refl _)
  obtain ⟨ad, len, cap, ex⟩ : ∃ ad len cap, a.eval x = .slice ad len cap := by
    rcases hy.h with ⟨s, rfl, _⟩ | rfl | ⟨i, off, len, cap, zs, rfl, _⟩
    · cases hns
    · obtain ⟨ad, cap, e, _⟩ := ((hxo.toS rfl).slv).slv; exact ⟨_, _, _, e⟩
    · obtain ⟨ad, cap', e, _⟩ := (hxo.toS rfl).bslv; exact ⟨_, _, _, e⟩
  rw [ex] at r1 r3
  have hlen : len = ys.length := by simpa [Builtin.lenOf] using r1
  subst hlen
  refine ⟨.string (ofI ys), ?_, .inr (.inl (.pl (.str _))), trivial⟩
  have hconv := run_convert_bytes_string (P := P) w src dst eT ad ys.length cap hu hu2 hu3
  have hfin : (Conv.bytesToString (.slice ad ys.length cap)).run P w = .ok (.string (ofI ys)) w := by
    cases ad with
    | none =>
      have : news = #[] := by simp only [Builtin.firstCells, Sem.run_pure] at r3; injection r3 with e _; exact e.symm
      subst this
      have hnil : ys = [] := by rw [← List.length_eq_zero_iff]; simpa using r4.symm
      subst hnil
      simp [Conv.bytesToString, ofI]; rfl
    | some ad =>
      simp only [Builtin.firstCells, Nat.mul_one] at r3
      have hnews : news = (ys.map (Value.int .u8)).toArray := by
        apply Array.ext_getElem?
        intro j
        by_cases hj : j < ys.length
        · have := r5 j news[j] (.int .u8 ys[j]) (by simp [r4, hj]) (by simp [hj])
          have e : news[j] = .int .u8 ys[j] := RepS.int (G := G) (w := w) (.pl this)
          rw [Array.getElem?_eq_getElem (by omega), e]; simp [hj]
        · rw [Array.getElem?_eq_none (by omega)]; simp [hj]
      rw [hnews] at r3
      have := run_bytesToString (P := P) w ad ys.length cap ys r3
      rw [ofI_eq] at this
      exact this
  simp [execOp, ex, hconv, hfin]

/-- A text becomes bytes, in a box. -/
theorem op_strBytes (ht : TabOK P tt) {src dst : TypeId} {x : Operand} {e i : TI} {s : ByteArray} (he : eti tt dst = some e) (hd1 : e.desc = .int .u8) (hi : tl tt src = some i) (hx : opv tt env src x = .str s) (hd : Nat.ble (d + 1) n = true)
    (h : SatOps P l n m all rest ((d, .bsl σ.length 0 1 s.size s.size) :: env) (σ ++ [.cells ((bi s).map (.int .u8))]) Q) : SatOps P l n m all (⟨some d, .convert src dst x, ty, pos, after, none⟩ :: rest) env σ Q := by
  refine op_gen rfl (by simp) fun F G a w hs => ?_
  have hxo := opv_ok hs tt src x
  rw [hx] at hxo
  have ex := (hxo.toS rfl).str
  obtain ⟨eT, hu, hT⟩ := eti_ok ht he
  have hu2 := hT.und
  rw [hd1] at hu2
  have hu3 := (ht _ _ hi).und
  have hrun := Lib.run_convert_string_bytes (P := P) w src dst eT s hu3 hu hu2
  have hlt : ∀ j, j < s.size → (Lib.bytesCells w eT s)[j]? = some (.int .u8 ((bi s).getD j 0)) := fun j hj => by
    have h0 : j < s.data.size := hj
    simp only [Lib.bytesCells]
    rw [Array.getElem?_append_left (by simpa using h0)]
    have h1 : s.data[j]? = some s.data[j] := Array.getElem?_eq_getElem h0
    simp [bi, List.getD, h1]
  have hcsz : s.size ≤ (Lib.bytesCells w eT s).size := by simp [Lib.bytesCells]
  have hget : ∀ (j : Nat) v c, (Lib.bytesCells w eT s)[j]? = some v → ((bi s).map (PV.int .u8))[j]? = some c → v = .int .u8 ((bi s).getD j 0) ∧ c = .int .u8 ((bi s).getD j 0) := by
    intro j v c hv hc
    have hj : j < s.size := by have := (List.getElem?_eq_some_iff.1 hc).1; simpa [bi_len] using this
    rw [hlt j hj] at hv
    have hb : j < (bi s).length := by rw [bi_len]; exact hj
    rw [List.getElem?_map, List.getElem?_eq_getElem hb] at hc
    simp only [Option.map_some, Option.some.injEq] at hc hv
    refine ⟨hv.symm, ?_⟩
    rw [← hc]; simp [List.getD, hb]
  have hs1 := hs.drew.box (Lib.bytesCells w eT s) eT ((bi s).map (PV.int .u8)) (by simp [bi_len]; exact hcsz) (by
      rw [ltAll_iff]; intro p hp; obtain ⟨z, _, rfl⟩ := List.mem_map.1 hp; trivial) (fun j v c hv hc => by
      obtain ⟨e1, e2⟩ := hget j v c hv hc
      rw [e1, e2]; exact .sh (.pl (.int _ _))) (.of_sh fun j v c hv hc => by
      obtain ⟨e1, e2⟩ := hget j v c hv hc
      rw [e1, e2]; rfl) true
  have hnew : (σ ++ [Ent.cells ((bi s).map (PV.int .u8))])[σ.length]? = some (.cells ((bi s).map (PV.int .u8))) := by simp
  have hev1 := Evol.alloc hs.drew (.cells (Lib.bytesCells w eT s) eT) (.box σ.length) (upd G.bs σ.length ⟨w.heap.size, (eT, (Lib.bytesCells w eT s).size), true⟩) (fun i hi => upd_ne _ _ (by have := hs.floor; omega))
  have hold : ∀ b, b ≠ w.heap.size → (Lib.bytesWorld w eT s).heap[b]? = (w.drew.alloc (.cells (Lib.bytesCells w eT s) eT)).heap[b]? := by
    intro b hb
    by_cases hlt' : b < w.heap.size
    · rw [Lib.bytesWorld_at_old w eT s b hlt']; exact (heap_alloc_lt w.drew _ hlt').symm
    · rw [Array.getElem?_eq_none (by rw [Lib.bytesWorld_size]; omega), Array.getElem?_eq_none (by rw [World.size_alloc]; change w.heap.size + 1 ≤ b; omega)]
  have hcellw : ∀ j, (Lib.bytesWorld w eT s).cell? ⟨w.heap.size, j, none⟩ = (w.drew.alloc (.cells (Lib.bytesCells w eT s) eT)).cell? ⟨w.heap.size, j, none⟩ := by
    intro j
    rw [show w.heap.size = w.drew.heap.size from rfl, World.cell?_alloc_new w.drew (Lib.bytesCells w eT s) eT j]
    have := Lib.bytesWorld_at_new w eT s
    simp only [World.cell?]
    rw [show w.drew.heap.size = w.heap.size from rfl, this]
    rfl
  have hbs : upd G.bs σ.length ⟨w.drew.heap.size, (eT, (Lib.bytesCells w eT s).size), true⟩ σ.length = ⟨w.heap.size, (eT, (Lib.bytesCells w eT s).size), true⟩ := upd_same _ _ _
  have hs2 := hs1.boxSet (cs' := (bi s).map (PV.int .u8)) hnew (w' := Lib.bytesWorld w eT s) (by rw [Lib.bytesWorld_size, World.size_alloc]; rfl) (fun b hb => hold b (by simp only [hbs] at hb; exact hb)) ?_ ?_ ?_ ?_ ?_
  · have hset : (σ ++ [Ent.cells ((bi s).map (PV.int .u8))]).set σ.length (.cells ((bi s).map (PV.int .u8))) = σ ++ [Ent.cells ((bi s).map (PV.int .u8))] := by
      refine List.ext_getElem? fun j => ?_
      rw [List.getElem?_set]
      split
      · rename_i e; subst e; simp
      · rfl
    rw [hset] at hs2
    have hev : Evol m F G w ⟨upd G.K w.heap.size (.box σ.length), upd G.bs σ.length ⟨w.heap.size, (eT, (Lib.bytesCells w eT s).size), true⟩⟩ (Lib.bytesWorld w eT s) := by
      refine ⟨rfl, rfl, rfl, by rw [Lib.bytesWorld_size]; omega, fun b hb => ?_, fun b p hb => ?_, hev1.bs⟩
      · have hlt' := hs.frlt b hb
        exact ⟨Lib.bytesWorld_at_old w eT s b hlt', upd_ne _ _ (by omega)⟩
      · have hlt' := hs.kfree b (by rw [hb]; simp)
        exact ⟨p, Nat.le_refl _, by simp only; rw [upd_ne _ _ (by omega)]; exact hb, fun j _ => cell_eq (Lib.bytesWorld_at_old w eT s b hlt')⟩
    refine ⟨.slice (some ⟨w.heap.size, 0, none⟩) s.size (grownCap w s.size 0 eT), _, _, _, _, .inl (by simp [execOp, ex, hrun]), hs2.setS (ltn hd) (.bsl _ _ _ _ _ _ _ (Nat.le_refl _) ?_ (.inr (by simp only [hbs]))) (by simp [PV.lt]), hev, h⟩
    exact grownCap_ge _ _ _ _
  · simp only [hbs]
    refine ⟨⟨_, _, _, Lib.bytesWorld_at_new w eT s, by simp [bi_len]; exact hcsz, fun j _ hj => by
      have := Lib.bytesWorld_at_new w eT s
      simp only [List.length_map, bi_len] at hj
      simp only [World.frozen?, this]
      simp; omega⟩, ?_, fun h => by simp only [hbs] at h; cases h⟩
    simp only [hbs, World.shape?, Lib.bytesWorld_at_new w eT s]
  · rw [ltAll_iff]; intro p hp; obtain ⟨z, _, rfl⟩ := List.mem_map.1 hp; trivial
  · intro j c hc
    obtain ⟨v, hv, hR⟩ := (hs1.sto _ _ hnew).2.2 j c hc
    simp only [hbs] at hv ⊢
    exact ⟨v, (hcellw j).trans hv, hR⟩
  · intro j v c b hv hc hb
    exfalso
    obtain ⟨z, _, rfl⟩ := List.mem_map.1 (List.mem_of_getElem? hc)
    revert hb; unfold ownB; split <;> simp_all
  · intro j j' v c v' c' b hv hc hb
    exfalso
    obtain ⟨z, _, rfl⟩ := List.mem_map.1 (List.mem_of_getElem? hc)
    revert hb; unfold ownB; split <;> simp_all

end
end Go.Proofs.Ytflgoabdgibphaa.Pv
