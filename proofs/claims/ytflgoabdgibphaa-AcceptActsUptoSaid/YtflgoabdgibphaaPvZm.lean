/- Rows of known capacity: copies, appends; elements of several cells, read and written. -/
import Derived.Test.YtflgoabdgibphaaPvZl
namespace Go.Proofs.Ytflgoabdgibphaa.Pv
open Go
set_option linter.unusedVariables false
set_option linter.unusedSimpArgs false

/-- What may be copied out: k elements; the cells of the first q of them, as they are read. -/
inductive SrcQ (σ : Sto) (sz : Nat) : PV → Nat → Nat → List PV → Prop
  | sl (es : List PV) : SrcQ σ sz (.sl .sh sz es) es.length es.length (flat es)
  | row (i off k q cap : Nat) (cs : List PV) (hi : σ[i]? = some (.cells cs)) (hq : q ≤ k) (hle : off + q * sz ≤ cs.length) (hS : ((cs.drop off).take (q * sz)).all PV.isS = true) : SrcQ σ sz (.xsl i off sz k cap) k q ((cs.drop off).take (q * sz))
  | none (i off cap : Nat) : SrcQ σ sz (.xsl i off sz 0 cap) 0 0 []
abbrev SrcR (σ : Sto) (sz : Nat) (p : PV) (k : Nat) (ys : List PV) : Prop := SrcQ σ sz p k k ys
theorem SrcR.sl {σ : Sto} {sz : Nat} (es : List PV) : SrcR σ sz (.sl .sh sz es) es.length (flat es) := SrcQ.sl es
theorem SrcR.row {σ : Sto} {sz : Nat} (i off k cap : Nat) (cs : List PV) (hi : σ[i]? = some (.cells cs)) (hle : off + k * sz ≤ cs.length) (hS : ((cs.drop off).take (k * sz)).all PV.isS = true) : SrcR σ sz (.xsl i off sz k cap) k ((cs.drop off).take (k * sz)) := SrcQ.row i off k k cap cs hi (Nat.le_refl _) hle hS
theorem SrcR.none {σ : Sto} {sz : Nat} (i off cap : Nat) : SrcR σ sz (.xsl i off sz 0 cap) 0 [] := SrcQ.none i off cap

theorem first_q {P : Program} {w : World} {sz q len cap : Nat} {ad : Addr} (vs : Nat → Value) (hs : ad.spot = none) (hv : ∀ j, j < q * sz → w.cell? ⟨ad.block, ad.off + j, none⟩ = some (vs j)) :
    (Builtin.firstCells sz q (.slice (some ad) len cap)).run P w = .ok ((List.range (q * sz)).map vs).toArray w := by
  simp only [Builtin.firstCells]
  exact run_loadCells w ad (q * sz) vs fun j hj => by rw [add_eq hs]; exact hv j hj
theorem first_0 {P : Program} {w : World} {sz len cap : Nat} {ad : Option Addr} : (Builtin.firstCells sz 0 (.slice ad len cap)).run P w = .ok #[] w := by
  cases ad <;> simp [Builtin.firstCells, loadCells, loadCellsFrom]

section
variable {P : Program} {n m : Nat} {F : Nat → Prop} {G : Gh} {env : Env} {σ : Sto} {a : Act} {w : World}

theorem srcQ_run (hs : Sim n m F G env σ a w) {v : Value} {p : PV} {sz k q0 : Nat} {ys : List PV} (hr : RepN G w v p) (h : SrcQ σ sz p k q0 ys) :
    (∀ w', (Builtin.lenOf v).run P w' = .ok k w') ∧ ys.length = q0 * sz ∧ q0 ≤ k ∧ ∀ q, q ≤ q0 → ∃ news : Array Value, (Builtin.firstCells sz q v).run P w = .ok news w ∧ (Builtin.firstCells sz q v).run P w.drew = .ok news w.drew ∧ news.size = q * sz ∧
      ∀ (j : Nat) u c, news[j]? = some u → (ys.take (q * sz))[j]? = some c → RepS G w u c ∧ c.lt σ.length := by
  cases h with
  | sl es =>
    obtain ⟨ad, cap, rfl, h'⟩ := ((hr.toS rfl).slv).slv
    rcases h' with rfl | ⟨ad, p, vs, rfl, hsp, hK, hp, hc, hsz, hv, hrr⟩
    · refine ⟨fun w' => rfl, by simp [flat], Nat.le_refl _, fun q hq => ?_⟩
      have : q = 0 := by simpa using hq
      subst this
      exact ⟨#[], first_0, first_0, by simp, fun j u c hj => by simp at hj⟩
    · refine ⟨fun w' => rfl, flat_length hsz, Nat.le_refl _, fun q hq => ?_⟩
      have hmul : q * sz ≤ es.length * sz := Nat.mul_le_mul_right _ hq
      refine ⟨_, first_q vs hsp (fun j hj => hv j (by omega)), first_q vs hsp (fun j hj => hv j (by omega)), by simp, fun j u c hj hcc => ?_⟩
      rw [List.getElem?_take] at hcc
      split at hcc
      · rename_i hjq
        simp [hjq] at hj
        subst hj
        have := hrr j c hcc
        exact ⟨.pl this, this.lt _⟩
      · cases hcc
  | row i off k q0 cap cs hi hqk hle hS =>
    obtain ⟨ad, rfl, c1, c3⟩ := (hr.toS rfl).xslv
    have hlen : ((cs.drop off).take (q0 * sz)).length = q0 * sz := by rw [List.length_take, List.length_drop]; omega
    refine ⟨fun w' => rfl, hlen, hqk, fun q hq => ?_⟩
    by_cases hk : q0 = 0
    · have : q = 0 := by omega
      subst this
      exact ⟨#[], first_0, first_0, by simp, fun j u c hj => by simp at hj⟩
    · obtain ⟨c3, _⟩ := c3.resolve_left (by omega)
      subst c3
      obtain ⟨hK, hsp, hcell⟩ := hs.sto i _ hi
      have hst := hs.stolt i _ hi
      simp only [Ent.lt] at hst
      have hmul : q * sz ≤ q0 * sz := Nat.mul_le_mul_right _ hq
      have hvals : ∀ j : Nat, ∃ v, j < q0 * sz → w.cell? ⟨G.bs i, off + j, none⟩ = some v ∧ ∀ c, cs[off + j]? = some c → RepS G w v c ∧ c.lt σ.length := by
        intro j
        by_cases hj : j < q0 * sz
        · have hlt : off + j < cs.length := by omega
          obtain ⟨v, h1, h2⟩ := hcell (off + j) cs[off + j] (by simp [hlt])
          refine ⟨v, fun _ => ⟨h1, fun c hc => ?_⟩⟩
          have hcc : c = cs[off + j] := by simpa [hlt] using hc.symm
          subst hcc
          have hiS := List.all_eq_true.1 hS cs[off + j] (List.mem_of_getElem? (i := j) (by rw [List.getElem?_take, if_pos hj, List.getElem?_drop]; exact hc))
          exact ⟨h2.toS hiS, ltAll_iff.1 hst _ (List.getElem_mem hlt)⟩
        · exact ⟨undef, fun h => absurd h hj⟩
      obtain ⟨vs, hvs⟩ := Classical.axiomOfChoice hvals
      refine ⟨_, first_q vs rfl (fun j hj => (hvs j (by omega)).1), first_q vs rfl (fun j hj => (hvs j (by omega)).1), by simp, fun j u c hj hcc => ?_⟩
      rw [List.getElem?_take] at hcc
      split at hcc
      · rename_i hjq
        simp [hjq] at hj
        subst hj
        rw [List.getElem?_take, if_pos (by omega), List.getElem?_drop] at hcc
        exact (hvs j (by omega)).2 c hcc
      · cases hcc
  | none i off cap =>
    obtain ⟨ad, rfl, c1, c3⟩ := (hr.toS rfl).xslv
    refine ⟨fun w' => rfl, by simp, Nat.le_refl _, fun q hq => ?_⟩
    have : q = 0 := by omega
    subst this
    exact ⟨#[], first_0, first_0, by simp, fun j u c hj => by simp at hj⟩

theorem srcR_run (hs : Sim n m F G env σ a w) {v : Value} {p : PV} {sz k : Nat} {ys : List PV} (hr : RepN G w v p) (h : SrcR σ sz p k ys) :
    (∀ w', (Builtin.lenOf v).run P w' = .ok k w') ∧ ys.length = k * sz ∧ ∀ q, q ≤ k → ∃ news : Array Value, (Builtin.firstCells sz q v).run P w = .ok news w ∧ (Builtin.firstCells sz q v).run P w.drew = .ok news w.drew ∧ news.size = q * sz ∧
      ∀ (j : Nat) u c, news[j]? = some u → (ys.take (q * sz))[j]? = some c → RepS G w u c ∧ c.lt σ.length :=
  let ⟨h1, h2, _, h3⟩ := srcQ_run hs hr h; ⟨h1, h2, h3⟩

theorem putAt_nil (l : List PV) (o : Nat) : putAt l o [] = l := by cases l <;> cases o <;> rfl
theorem set_same {i : Nat} {e : Ent} (hi : σ[i]? = some e) : σ.set i e = σ := by
  refine List.ext_getElem? fun j => ?_
  rw [List.getElem?_set]
  split
  · rename_i e'; subst e'; rw [hi]; simp [(List.getElem?_eq_some_iff.1 hi).1]
  · rfl

/-- The run of an append, whatever its operands. -/
theorem run_appendK {tS tX eT ty : TypeId} {e : TI} (hu : P.underlying tS = some (.slice eT)) (hT : TyOK P eT e) {uX : TypeDesc} (hX : P.underlying tX = some uX) (hXi : ∀ k, uX ≠ .int k)
    {base : Option Addr} {sLen sCap k : Nat} {x : Value} {news : Array Value} (hlen : ∀ w', (Builtin.lenOf x).run P w' = .ok k w') (hf : (Builtin.firstCells e.size k x).run P w = .ok news w) (hfD : (Builtin.firstCells e.size k x).run P w.drew = .ok news w.drew) (olds : Array Value)
    (hold : (Builtin.firstCells e.size sLen (.slice base sLen sCap)).run P w.drew = .ok olds w.drew) (hle : sLen ≤ sCap) (h63 : sLen + k ≤ 9223372036854775807) (hfit : (sLen + k) * e.bytes ≤ 140737488355328) :
    (sLen + k ≤ sCap → (Builtin.append_ #[tS, tX] ty #[.slice base sLen sCap, x]).run P w =
      ((match base with | some a => storeCells (a.add (sLen * e.size)) news.toList | none => pure ()).run P w).andThen fun _ w' => .ok (.slice base (sLen + k) sCap) w') ∧
    (¬ sLen + k ≤ sCap → ∃ zs : Array Value, zs.size = (grownCap w (sLen + k) sCap eT - (sLen + k)) * e.size ∧ (Builtin.append_ #[tS, tX] ty #[.slice base sLen sCap, x]).run P w =
      .ok (.slice (some ⟨w.heap.size, 0, none⟩) (sLen + k) (grownCap w (sLen + k) sCap eT)) (w.drew.alloc (.cells (olds ++ news ++ zs) eT))) := by
  obtain ⟨info, z, hi1, hi2, hi3, hi4, hi5⟩ := hT.inf
  have hzs : ((uX matches .int _) : Bool) = false := by cases uX <;> first | rfl | exact absurd rfl (hXi _)
  have hsize : ∀ w', (sizeOf eT).run P w' = .ok e.size w' := hT.rsize
  constructor
  · intro hfits
    simp only [Builtin.append_, List.getElem?_toArray, List.getElem?_cons_zero, List.getElem?_cons_succ, Sem.run_bind, underlying, hu, hX, run_program, Result.andThen_ok, Sem.run_pure, hsize, hzs, hlen, hfits, if_true, hf, Bool.false_eq_true, if_false, Bool.not_false]
    cases base <;> simp
  · intro hfits
    have hns : Builtin.nextslicecap (sLen + k) sCap * e.bytes ≤ 281474976710656 := by
      have := nextslicecap_le (need := sLen + k) (old := sCap) (by omega)
      calc _ ≤ 2 * (sLen + k) * e.bytes := Nat.mul_le_mul_right _ this
        _ = 2 * ((sLen + k) * e.bytes) := Nat.mul_assoc _ _ _
        _ ≤ _ := by omega
    have hz : z.cells.size = e.size := by
      have := (zcs_get hi5).1
      rw [← hT.zl, ← this]; simp
    refine ⟨Builtin.zeroCells z.cells (grownCap w (sLen + k) sCap eT - (sLen + k)), by rw [size_zeroCells, hz], ?_⟩
    have h1 : ¬ ((sLen + k : Nat) : Int) > IntKind.i64.max := by simp only [IntKind.max, IntKind.signed, IntKind.bits, if_true]; omega
    have h2 : ¬ Builtin.nextslicecap (sLen + k) sCap * info.bytes > 2 ^ 48 := by rw [hi3]; omega
    simp only [Builtin.append_, List.getElem?_toArray, List.getElem?_cons_zero, List.getElem?_cons_succ, Sem.run_bind, underlying, hu, hX, run_program, Result.andThen_ok, Sem.run_pure, hsize, hzs, hlen, hfits, Bool.false_eq_true, if_false, Bool.not_false, typeInfo, hi1, h1, false_and, h2, run_choose, Question.forced]
    have hd : ({ heap := w.heap, tape := w.tape, drawn := w.drawn + 1, os := w.os, output := w.output } : World) = w.drew := rfl
    have hgc : (Question.appendCap (sLen + k) sCap eT).cut (w.tape w.drawn (Question.appendCap (sLen + k) sCap eT)) = grownCap w (sLen + k) sCap eT := rfl
    have hzr : (zeroValue eT).run P w.drew = .ok z w.drew := by simp [zeroValue, typeInfo, hi1, hi4]
    rw [hd, hgc, run_askRoom, Result.andThen_ok, hold, Result.andThen_ok, if_pos trivial, hfD, Result.andThen_ok, hzr, Result.andThen_ok]
    simp only [newRow, Sem.run_bind, run_newObj, Result.andThen_ok, Sem.run_pure]
    rfl

/-- The run of an append of so many zero values. -/
theorem run_appendZ {tS tX eT ty : TypeId} {e : TI} (hu : P.underlying tS = some (.slice eT)) (hT : TyOK P eT e) {kX : IntKind} (hX : P.underlying tX = some (.int kX))
    {base : Option Addr} {sLen sCap k : Nat} {kz : IntKind} (olds : Array Value)
    (hold : (Builtin.firstCells e.size sLen (.slice base sLen sCap)).run P w.drew = .ok olds w.drew) (hle : sLen ≤ sCap) (h63 : sLen + k ≤ 9223372036854775807) (hfit : (sLen + k) * e.bytes ≤ 140737488355328) (hroom : ¬ sLen + k ≤ sCap) :
    ∃ zs : Array Value, zs.size = (grownCap w (sLen + k) sCap eT - sLen) * e.size ∧ (Builtin.append_ #[tS, tX] ty #[.slice base sLen sCap, .int kz (k : Int)]).run P w =
      .ok (.slice (some ⟨w.heap.size, 0, none⟩) (sLen + k) (grownCap w (sLen + k) sCap eT)) (w.drew.alloc (.cells (olds ++ zs) eT)) := by
  obtain ⟨info, z, hi1, hi2, hi3, hi4, hi5⟩ := hT.inf
  have hsize : ∀ w', (sizeOf eT).run P w' = .ok e.size w' := hT.rsize
  have hns : Builtin.nextslicecap (sLen + k) sCap * e.bytes ≤ 281474976710656 := by
    have := nextslicecap_le (need := sLen + k) (old := sCap) (by omega)
    calc _ ≤ 2 * (sLen + k) * e.bytes := Nat.mul_le_mul_right _ this
      _ = 2 * ((sLen + k) * e.bytes) := Nat.mul_assoc _ _ _
      _ ≤ _ := by omega
  have hz : z.cells.size = e.size := by
    have := (zcs_get hi5).1
    rw [← hT.zl, ← this]; simp
  have hge : sLen + k ≤ grownCap w (sLen + k) sCap eT := grownCap_ge _ _ _ _
  have hwr : IntKind.i64.wrap (k : Int) = (k : Int) := wrap_in (by simp only [InR]; omega)
  have h0 : ¬ ((k : Int) < 0) := by omega
  have hkb : k * e.bytes ≤ 140737488355328 := Nat.le_trans (Nat.mul_le_mul_right _ (Nat.le_add_left _ _)) hfit
  have h0b : ¬ ((k : Int) * (info.bytes : Int) > 2 ^ 48) := by
    rw [hi3]
    have : ((k : Int) * (e.bytes : Int)) = ((k * e.bytes : Nat) : Int) := by simp
    rw [this]; omega
  have h1 : ¬ ((sLen + k : Nat) : Int) > IntKind.i64.max := by simp only [IntKind.max, IntKind.signed, IntKind.bits, if_true]; omega
  have h2 : ¬ Builtin.nextslicecap (sLen + k) sCap * info.bytes > 2 ^ 48 := by rw [hi3]; omega
  have hd : ({ heap := w.heap, tape := w.tape, drawn := w.drawn + 1, os := w.os, output := w.output } : World) = w.drew := rfl
  have hgc : (Question.appendCap (sLen + k) sCap eT).cut (w.tape w.drawn (Question.appendCap (sLen + k) sCap eT)) = grownCap w (sLen + k) sCap eT := rfl
  have hzr : ∀ w', (zeroValue eT).run P w' = .ok z w' := fun w' => by simp [zeroValue, typeInfo, hi1, hi4]
  by_cases hk0 : k * e.size = 0
  · refine ⟨#[] ++ Builtin.zeroCells z.cells (grownCap w (sLen + k) sCap eT - (sLen + k)), ?_, ?_⟩
    · rw [Array.size_append, size_zeroCells, hz]
      have : k = 0 ∨ e.size = 0 := Nat.mul_eq_zero.1 hk0
      rcases this with h | h
      · simp [h]
      · simp [h]
    · simp only [Builtin.append_, List.getElem?_toArray, List.getElem?_cons_zero, List.getElem?_cons_succ, Sem.run_bind, underlying, hu, hX, run_program, Result.andThen_ok, Sem.run_pure, hsize, if_true, asInt, asIntOf, hwr, h0, if_false, typeInfo, hi1, h0b, Int.toNat_natCast, hroom, h1, false_and, h2, run_choose, Question.forced, Bool.not_true, Bool.false_eq_true]
      rw [hd, hgc, run_askRoom, Result.andThen_ok, hold, Result.andThen_ok, if_pos hk0]
      simp only [Sem.run_pure, Result.andThen_ok, hzr, newRow, Sem.run_bind, run_newObj]
      rw [Array.append_assoc]
      rfl
  · refine ⟨Builtin.zeroCells z.cells k ++ Builtin.zeroCells z.cells (grownCap w (sLen + k) sCap eT - (sLen + k)), ?_, ?_⟩
    · rw [Array.size_append, size_zeroCells, size_zeroCells, hz, ← Nat.add_mul]; congr 1; omega
    · simp only [Builtin.append_, List.getElem?_toArray, List.getElem?_cons_zero, List.getElem?_cons_succ, Sem.run_bind, underlying, hu, hX, run_program, Result.andThen_ok, Sem.run_pure, hsize, if_true, asInt, asIntOf, hwr, h0, if_false, typeInfo, hi1, h0b, Int.toNat_natCast, hroom, h1, false_and, h2, run_choose, Question.forced, Bool.not_true, Bool.false_eq_true]
      rw [hd, hgc, run_askRoom, Result.andThen_ok, hold, Result.andThen_ok, if_neg hk0]
      simp only [Sem.run_pure, Result.andThen_ok, hzr, newRow, Sem.run_bind, run_newObj]
      rw [Array.append_assoc]
      rfl
end

section
variable {P : Program} {l : Option Nat} {tt : TT} {n m : Nat} {all : Array Oper} {rest : List Oper} {env : Env} {σ : Sto} {Q : Post} {d : Nat} {dd : Option Nat} {ty : TypeId} {pos : String} {after : Array Edge} {g : Option (Nat × Bool)}

/-- A copy into such a row. -/
theorem op_copyR (ht : TabOK P tt) {tD tS : TypeId} {x y : Operand} {e : TI} {i off sz len cap k q0 : Nat} {cs ys : List PV} {q : PV} (he : eti tt tD = some e) (hsz : Nat.beq e.size sz = true)
    (hx : opv tt env tD x = .xsl i off sz len cap) (hi : σ[i]? = some (.cells cs)) (hq : opv tt env tS y = q) (hy : SrcQ σ sz q k q0 ys) (hq0 : min k len ≤ q0) (hle : off + len * sz ≤ cs.length) (h1 : ys.all PV.one = true) (hd : Nat.ble (d + 1) n = true)
    (h : SatOps P l n m all rest ((d, .int .i64 (min k len : Nat)) :: env) (σ.set i (.cells (putAt cs off (ys.take (min k len * sz))))) Q) :
    SatOps P l n m all (⟨some d, .call ⟨.builtin .copy, #[x, y], #[tD, tS]⟩, ty, pos, after, none⟩ :: rest) env σ Q := by
  refine op_gen rfl (by simp) fun F G a w hs => ?_
  have hsz := Nat.eq_of_beq_eq_true hsz
  have hxo := opv_ok hs tt tD x
  have hyo := opv_ok hs tt tS y
  rw [hx] at hxo
  rw [hq] at hyo
  obtain ⟨ad, ex, c1, c3⟩ := (hxo.toS rfl).xslv
  obtain ⟨eT, hu, hT⟩ := eti_ok ht he
  obtain ⟨r1, r2, _, r3⟩ := srcQ_run (P := P) hs hyo hy
  obtain ⟨news, r3, _, r4, r5⟩ := r3 (min k len) hq0
  have hz := hT.rsize w
  have hmul : min k len * sz ≤ q0 * sz := Nat.mul_le_mul_right _ hq0
  have hmul2 : min k len * sz ≤ len * sz := Nat.mul_le_mul_right _ (Nat.min_le_right _ _)
  have hlen : (ys.take (min k len * sz)).length = min k len * sz := by rw [List.length_take, r2]; omega
  have fin : ∀ w', (execOp a.eval ⟨some d, .call ⟨.builtin .copy, #[x, y], #[tD, tS]⟩, ty, pos, after, none⟩).run P w = .ok (.value (.int .i64 (min k len : Nat))) w' → Sim n m F G env (σ.set i (.cells (putAt cs off (ys.take (min k len * sz))))) a w' → Evol m F G w G w' → ∃ v w' G' env' σ', ((execOp a.eval ⟨some d, .call ⟨.builtin .copy, #[x, y], #[tD, tS]⟩, ty, pos, after, none⟩).run P w = .ok (.value v) w' ∨ ((execOp a.eval ⟨some d, .call ⟨.builtin .copy, #[x, y], #[tD, tS]⟩, ty, pos, after, none⟩).run P w = .ok .skip w' ∧ v = undef)) ∧
      Sim n m F G' env' σ' (a.put (some d) v) w' ∧ Evol m F G w G' w' ∧ SatOps P l n m all rest env' σ' Q := fun w' hrun hsim hev =>
    ⟨_, w', G, _, _, .inl hrun, hsim.setS (ltn hd) (.pl (.int _ _)) trivial, hev, h⟩
  by_cases h0 : min k len = 0
  · have hn : news = #[] := Array.eq_empty_of_size_eq_zero (by rw [r4, h0, Nat.zero_mul])
    subst hn
    have hσ : σ.set i (.cells (putAt cs off (ys.take (min k len * sz)))) = σ := by rw [h0, Nat.zero_mul, List.take_zero, putAt_nil]; exact set_same hi
    refine fin w ?_ (by rw [hσ]; exact hs) (.refl _ _ _ _)
    have hm : Nat.min k len = 0 := h0
    rw [h0] at r3 ⊢
    cases ad <;> simp [execOp, resolve, invoke, builtin, Builtin.copy_, underlying, hu, ex, r1, hm, hz, hsz, r3, storeCells, goInt]
  · have hl0 : len ≠ 0 := fun e => h0 (by rw [e]; simp)
    obtain ⟨c3, _⟩ := c3.resolve_left (by omega)
    subst c3
    obtain ⟨w1, w2, w3⟩ := hs.boxWrite (P := P) hi off news.toList (ys.take (min k len * sz)) (by rw [hlen]; simpa using r4) (fun j v c hv hc => (r5 j v c (by simpa using hv) hc).1) (by
        rw [ltAll_iff]; intro p hp
        obtain ⟨j, hj, rfl⟩ := List.getElem_of_mem hp
        have hj' : j < news.size := by rw [r4, ← hlen]; exact hj
        exact (r5 j news[j] _ (by simp [hj']) (List.getElem?_eq_getElem hj)).2) (by
        rw [List.all_eq_true] at h1 ⊢; intro p hp; exact h1 p (List.mem_of_mem_take hp)) (by rw [hlen]; omega)
    refine fin _ ?_ w2 w3
    have hm : Nat.min k len = min k len := rfl
    simp [execOp, resolve, invoke, builtin, Builtin.copy_, underlying, hu, ex, r1, hm, hz, hsz, r3, w1, goInt]

/-- An append for which there is room. -/
theorem op_appendR (ht : TabOK P tt) {tS tX : TypeId} {x y : Operand} {e iX : TI} {eX i off sz len cap k : Nat} {cs ys : List PV} {q : PV} (he : eti tt tS = some e) (hsz : Nat.beq e.size sz = true) (hX : tl tt tX = some iX) (hXi : iX.desc = .slice eX)
    (hx : opv tt env tS x = .xsl i off sz len cap) (hi : σ[i]? = some (.cells cs)) (hq : opv tt env tX y = q) (hy : SrcR σ sz q k ys) (hroom : len + k ≤ cap) (hle : off + (len + k) * sz ≤ cs.length) (h1 : ys.all PV.one = true)
    (hfit : (len + k) * (e.bytes + 1) ≤ 140737488355328) (hd : Nat.ble (d + 1) n = true)
    (h : SatOps P l n m all rest ((d, .xsl i off sz (len + k) cap) :: env) (σ.set i (.cells (putAt cs (off + len * sz) ys))) Q) :
    SatOps P l n m all (⟨some d, .call ⟨.builtin .append, #[x, y], #[tS, tX]⟩, ty, pos, after, none⟩ :: rest) env σ Q := by
  refine op_gen rfl (by simp) fun F G a w hs => ?_
  have hsz := Nat.eq_of_beq_eq_true hsz
  have hxo := opv_ok hs tt tS x
  have hxl := opv_lt hs tt tS x
  have hyo := opv_ok hs tt tX y
  rw [hx] at hxo hxl
  rw [hq] at hyo
  obtain ⟨ad, ex, c1, c3⟩ := (hxo.toS rfl).xslv
  obtain ⟨eT, hu, hT⟩ := eti_ok ht he
  subst hsz
  obtain ⟨r1, r2, r3⟩ := srcR_run (P := P) hs hyo hy
  obtain ⟨news, r3, r3D, r4, r5⟩ := r3 k (Nat.le_refl _)
  rw [← r2, List.take_length] at r5
  rw [Nat.mul_add, Nat.mul_one] at hfit
  -- what lay there is not looked at
  have hin : (Builtin.append_ #[tS, tX] ty #[.slice ad len cap, a.eval y]).run P w =
      ((match ad with | some b => storeCells (b.add (len * e.size)) news.toList | none => pure ()).run P w).andThen fun _ w' => .ok (.slice ad (len + k) cap) w' := by
    have hX' := (ht _ _ hX).und
    rw [hXi] at hX'
    have hsize : ∀ w', (sizeOf eT).run P w' = .ok e.size w' := hT.rsize
    simp only [Builtin.append_, List.getElem?_toArray, List.getElem?_cons_zero, List.getElem?_cons_succ, Sem.run_bind, underlying, hu, hX', run_program, Result.andThen_ok, Sem.run_pure, hsize, r1, hroom, if_true, r3, Bool.false_eq_true, if_false, Bool.not_false]
    cases ad <;> simp
  have fin : ∀ w', (Builtin.append_ #[tS, tX] ty #[.slice ad len cap, a.eval y]).run P w = .ok (.slice ad (len + k) cap) w' → Sim n m F G env (σ.set i (.cells (putAt cs (off + len * e.size) ys))) a w' → Evol m F G w G w' → ∃ v w' G' env' σ', ((execOp a.eval ⟨some d, .call ⟨.builtin .append, #[x, y], #[tS, tX]⟩, ty, pos, after, none⟩).run P w = .ok (.value v) w' ∨ ((execOp a.eval ⟨some d, .call ⟨.builtin .append, #[x, y], #[tS, tX]⟩, ty, pos, after, none⟩).run P w = .ok .skip w' ∧ v = undef)) ∧
      Sim n m F G' env' σ' (a.put (some d) v) w' ∧ Evol m F G w G' w' ∧ SatOps P l n m all rest env' σ' Q := fun w' hrun hsim hev =>
    ⟨_, w', G, _, _, .inl (by simp [execOp, resolve, invoke, builtin, ex, hrun]), hsim.setS (ltn hd) (.xsl _ _ _ _ _ _ hroom c3) (by simp only [PV.lt, List.length_set] at hxl ⊢; exact hxl), hev, h⟩
  by_cases h0 : k = 0
  · subst h0
    have hn : news = #[] := Array.eq_empty_of_size_eq_zero (by rw [r4, Nat.zero_mul])
    subst hn
    have hy0 : ys = [] := List.length_eq_zero_iff.1 (by rw [r2, Nat.zero_mul])
    subst hy0
    have hσ : σ.set i (.cells (putAt cs (off + len * e.size) [])) = σ := by rw [putAt_nil]; exact set_same hi
    refine fin w ?_ (by rw [hσ]; exact hs) (.refl _ _ _ _)
    rw [hin]
    cases ad <;> simp [storeCells]
  · obtain ⟨c3', _⟩ := c3.resolve_left (by omega)
    subst c3'
    obtain ⟨w1, w2, w3⟩ := hs.boxWrite (P := P) hi (off + len * e.size) news.toList ys (by rw [r2]; simpa using r4) (fun j v c hv hc => (r5 j v c (by simpa using hv) hc).1) (by
        rw [ltAll_iff]; intro p hp
        obtain ⟨j, hj, rfl⟩ := List.getElem_of_mem hp
        have hj' : j < news.size := by rw [r4, ← r2]; exact hj
        exact (r5 j news[j] _ (by simp [hj']) (List.getElem?_eq_getElem hj)).2) h1 (by rw [r2, Nat.add_assoc, ← Nat.add_mul]; exact hle)
    refine fin _ ?_ w2 w3
    rw [hin]
    simp only [add_eq, w1, Result.andThen_ok]

theorem all_get {α : Type} {p : α → Bool} {xs : List α} (h : xs.all p = true) {j : Nat} {x : α} (hx : xs[j]? = some x) : p x = true := List.all_eq_true.1 h x (List.mem_of_getElem? hx)

/-- An append for which there is no room: a new row. -/
theorem op_appendN (ht : TabOK P tt) {tS tX : TypeId} {x y : Operand} {e iX : TI} {eX i off sz len cap k : Nat} {zs ys : List PV} {q : PV} (he : eti tt tS = some e) (hsz : Nat.beq e.size sz = true) (hX : tl tt tX = some iX) (hXi : iX.desc = .slice eX)
    (hx : opv tt env tS x = .xsl i off sz len cap) (hb : SrcR σ sz (.xsl i off sz len cap) len zs) (hq : opv tt env tX y = q) (hy : SrcR σ sz q k ys) (hroom : cap < len + k)
    (hfit : (len + k) * (e.bytes + 1) ≤ 140737488355328) (hd : Nat.ble (d + 1) n = true)
    (h : ∀ c, len + k ≤ c → SatOps P l n m all rest ((d, .xsl σ.length 0 sz (len + k) c) :: env) (σ ++ [.cells (zs ++ ys ++ List.replicate ((c - (len + k)) * sz) .dead)]) Q) :
    SatOps P l n m all (⟨some d, .call ⟨.builtin .append, #[x, y], #[tS, tX]⟩, ty, pos, after, none⟩ :: rest) env σ Q := by
  refine op_gen rfl (by simp) fun F G a w hs => ?_
  have hsz := Nat.eq_of_beq_eq_true hsz
  have hxo := opv_ok hs tt tS x
  have hyo := opv_ok hs tt tX y
  rw [hx] at hxo
  rw [hq] at hyo
  obtain ⟨ad, ex, c1, c3⟩ := (hxo.toS rfl).xslv
  obtain ⟨eT, hu, hT⟩ := eti_ok ht he
  subst hsz
  obtain ⟨r1, r2, r3⟩ := srcR_run (P := P) hs hyo hy
  obtain ⟨news, r3, r3D, r4, r5⟩ := r3 k (Nat.le_refl _)
  rw [← r2, List.take_length] at r5
  obtain ⟨b1, b2, b3⟩ := srcR_run (P := P) hs hxo hb
  obtain ⟨olds, b3, b3D, b4, b5⟩ := b3 len (Nat.le_refl _)
  rw [← b2, List.take_length] at b5
  rw [Nat.mul_add, Nat.mul_one] at hfit
  rw [ex] at b3D
  obtain ⟨zv, hzv, hrun⟩ := (run_appendK (w := w) (ty := ty) hu hT (ht _ _ hX).und (by rw [hXi]; simp) r1 r3 r3D olds b3D c1 (by omega) (by omega)).2 (by omega)
  have hge : len + k ≤ grownCap w (len + k) cap eT := grownCap_ge _ _ _ _
  have hs0 := hs.drew
  have hzl : zs.length = olds.size := by rw [b2, b4]
  have hyl : ys.length = news.size := by rw [r2, r4]
  have hget : ∀ (j : Nat) v c, (olds ++ news ++ zv)[j]? = some v → (zs ++ ys ++ List.replicate ((grownCap w (len + k) cap eT - (len + k)) * e.size) PV.dead)[j]? = some c → c = .dead ∨ (RepS G w v c ∧ c.lt σ.length) := by
    intro j v c hv hc
    rw [List.append_assoc] at hc
    rw [Array.append_assoc] at hv
    by_cases h1 : j < zs.length
    · rw [List.getElem?_append_left h1] at hc
      rw [Array.getElem?_append_left (by omega)] at hv
      exact .inr (b5 j v c hv hc)
    · rw [List.getElem?_append_right (by omega)] at hc
      rw [Array.getElem?_append_right (by omega)] at hv
      by_cases h2 : j - zs.length < ys.length
      · rw [List.getElem?_append_left h2] at hc
        rw [Array.getElem?_append_left (by omega)] at hv
        exact .inr (r5 _ v c (by rw [hzl]; exact hv) hc)
      · rw [List.getElem?_append_right (by omega)] at hc
        exact .inl (List.eq_of_mem_replicate (List.mem_of_getElem? hc))
  have hs1 := hs0.box (olds ++ news ++ zv) eT (zs ++ ys ++ List.replicate ((grownCap w (len + k) cap eT - (len + k)) * e.size) PV.dead) (by simp only [List.length_append, List.length_replicate, Array.size_append, hzv, hzl, hyl]; exact Nat.le_refl _) (by
      rw [ltAll_iff]; intro p hp
      obtain ⟨j, hj, rfl⟩ := List.getElem_of_mem hp
      have hj' : j < (olds ++ news ++ zv).size := by
        simp only [List.length_append, List.length_replicate] at hj
        simp only [Array.size_append, hzv, ← hzl, ← hyl]; exact hj
      rcases hget j _ _ (Array.getElem?_eq_getElem hj') (List.getElem?_eq_getElem hj) with e | ⟨_, e⟩
      · rw [e]; trivial
      · exact e) (fun j v c hv hc => by
      rcases hget j v c hv hc with rfl | ⟨e, e2⟩
      · exact .dead _
      · exact .sh (e.mono (n := σ.length) (fun _ p h => ⟨p, Nat.le_refl _, h, fun _ _ => rfl⟩) (fun _ _ => rfl) e2)) (.of_sh fun j v c hv hc => by
      rcases hget j v c hv hc with rfl | ⟨e, _⟩
      · exact ownB_dead _
      · exact ownB_sh e)
  refine ⟨.slice (some ⟨w.heap.size, 0, none⟩) (len + k) (grownCap w (len + k) cap eT), _, _, _, _, .inl (run_app (by rw [ex]; exact hrun)), hs1.setS (ltn hd) (.xsl _ σ.length 0 e.size _ _ hge (.inr ⟨?_, ?_⟩)) (.inr (by simp)), (Evol.drew hs).trans (Evol.alloc hs0 _ _ _ fun i hi => upd_ne _ _ (by have := hs.floor; omega)), h _ hge⟩
  · simp only [upd_same]; rfl
  · simp only [upd_same]

/-- The same of so many zero values. -/
theorem op_appendZ (ht : TabOK P tt) {tS tX : TypeId} {x y : Operand} {e iX : TI} {kX kz : IntKind} {i off sz len cap : Nat} {z : Int} {zs : List PV} (he : eti tt tS = some e) (hsz : Nat.beq e.size sz = true) (hX : tl tt tX = some iX) (hXi : iX.desc = .int kX)
    (hx : opv tt env tS x = .xsl i off sz len cap) (hb : SrcR σ sz (.xsl i off sz len cap) len zs) (hq : opv tt env tX y = .int kz z) (h0 : 0 ≤ z) (hroom : cap < len + z.toNat)
    (hfit : (len + z.toNat) * (e.bytes + 1) ≤ 140737488355328) (hd : Nat.ble (d + 1) n = true)
    (h : ∀ c, len + z.toNat ≤ c → SatOps P l n m all rest ((d, .xsl σ.length 0 sz (len + z.toNat) c) :: env) (σ ++ [.cells (zs ++ List.replicate ((c - len) * sz) .dead)]) Q) :
    SatOps P l n m all (⟨some d, .call ⟨.builtin .append, #[x, y], #[tS, tX]⟩, ty, pos, after, none⟩ :: rest) env σ Q := by
  refine op_gen rfl (by simp) fun F G a w hs => ?_
  obtain ⟨k, rfl⟩ : ∃ k : Nat, z = k := ⟨z.toNat, by omega⟩
  rw [Int.toNat_natCast] at *
  have hsz := Nat.eq_of_beq_eq_true hsz
  have hxo := opv_ok hs tt tS x
  have hyo := opv_ok hs tt tX y
  rw [hx] at hxo
  rw [hq] at hyo
  have ey := (hyo.toS rfl).int
  obtain ⟨ad, ex, c1, c3⟩ := (hxo.toS rfl).xslv
  obtain ⟨eT, hu, hT⟩ := eti_ok ht he
  subst hsz
  obtain ⟨b1, b2, b3⟩ := srcR_run (P := P) hs hxo hb
  obtain ⟨olds, b3, b3D, b4, b5⟩ := b3 len (Nat.le_refl _)
  rw [← b2, List.take_length] at b5
  rw [Nat.mul_add, Nat.mul_one] at hfit
  rw [ex] at b3D
  obtain ⟨zv, hzv, hrun⟩ := run_appendZ (w := w) (ty := ty) (kz := kz) (k := k) hu hT (by rw [(ht _ _ hX).und, hXi]) olds b3D c1 (by omega) (by omega) (by omega)
  have hge : len + k ≤ grownCap w (len + k) cap eT := grownCap_ge _ _ _ _
  have hs0 := hs.drew
  have hzl : zs.length = olds.size := by rw [b2, b4]
  have hget : ∀ (j : Nat) v c, (olds ++ zv)[j]? = some v → (zs ++ List.replicate ((grownCap w (len + k) cap eT - len) * e.size) PV.dead)[j]? = some c → c = .dead ∨ (RepS G w v c ∧ c.lt σ.length) := by
    intro j v c hv hc
    by_cases h1 : j < zs.length
    · rw [List.getElem?_append_left h1] at hc
      rw [Array.getElem?_append_left (by omega)] at hv
      exact .inr (b5 j v c hv hc)
    · rw [List.getElem?_append_right (by omega)] at hc
      exact .inl (List.eq_of_mem_replicate (List.mem_of_getElem? hc))
  have hs1 := hs0.box (olds ++ zv) eT (zs ++ List.replicate ((grownCap w (len + k) cap eT - len) * e.size) PV.dead) (by simp only [List.length_append, List.length_replicate, Array.size_append, hzv, hzl]; exact Nat.le_refl _) (by
      rw [ltAll_iff]; intro p hp
      obtain ⟨j, hj, rfl⟩ := List.getElem_of_mem hp
      have hj' : j < (olds ++ zv).size := by
        simp only [List.length_append, List.length_replicate] at hj
        simp only [Array.size_append, hzv, ← hzl]; exact hj
      rcases hget j _ _ (Array.getElem?_eq_getElem hj') (List.getElem?_eq_getElem hj) with e | ⟨_, e⟩
      · rw [e]; trivial
      · exact e) (fun j v c hv hc => by
      rcases hget j v c hv hc with rfl | ⟨e, e2⟩
      · exact .dead _
      · exact .sh (e.mono (n := σ.length) (fun _ p h => ⟨p, Nat.le_refl _, h, fun _ _ => rfl⟩) (fun _ _ => rfl) e2)) (.of_sh fun j v c hv hc => by
      rcases hget j v c hv hc with rfl | ⟨e, _⟩
      · exact ownB_dead _
      · exact ownB_sh e)
  refine ⟨.slice (some ⟨w.heap.size, 0, none⟩) (len + k) (grownCap w (len + k) cap eT), _, _, _, _, .inl (run_app (by rw [ex, ey]; exact hrun)), hs1.setS (ltn hd) (.xsl _ σ.length 0 e.size _ _ hge (.inr ⟨?_, ?_⟩)) (.inr (by simp)), (Evol.drew hs).trans (Evol.alloc hs0 _ _ _ fun i hi => upd_ne _ _ (by have := hs.floor; omega)), h _ hge⟩
  · simp only [upd_same]; rfl
  · simp only [upd_same]

end
end Go.Proofs.Ytflgoabdgibphaa.Pv
