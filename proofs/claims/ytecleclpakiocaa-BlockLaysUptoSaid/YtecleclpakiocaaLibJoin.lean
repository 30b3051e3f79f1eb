/- What strings.Join gives: the shelf's contract, as one over plain values. -/
import Derived.Test.YtecleclpakiocaaPvZj
import Derived.Test.YtecleclpakiocaaTy
import Derived.Shelf.Strings.OnBuilder
import Derived.KernelRfl
namespace Go.Proofs.Ytecleclpakiocaa.Pv
open Go
set_option linter.unusedVariables false
set_option linter.unusedSimpArgs false
set_option maxRecDepth 100000
def ren156 : Go.Shelf.Ren := ⟨fun | 156 => 22 | 165 => 24 | 166 => 25 | 169 => 26 | 240 => 27 | 241 => 28 | 276 => 29 | 277 => 30 | n => n, fun | 31 => 22 | 9 => 9 | 3 => 3 | 4 => 4 | 0 => 0 | 20 => 20 | 72 => 61 | 76 => 65 | 70 => 59 | 37 => 56 | 75 => 64 | 127 => 68 | 164 => 69 | 5 => 5 | 80 => 67 | n => n, fun n => n⟩
theorem lays156 : Lays.n156 Try.prog ren156 := {
  mixed := by kernel_rfl,
  f156 := Try.func22.trans (congrArg some (by kernel_rfl)),
  f165 := Try.func24.trans (congrArg some (by kernel_rfl)),
  f166 := Try.func25.trans (congrArg some (by kernel_rfl)),
  f169 := Try.func26.trans (congrArg some (by kernel_rfl)),
  f240 := Try.func27.trans (congrArg some (by kernel_rfl)),
  f241 := Try.func28.trans (congrArg some (by kernel_rfl)),
  f276 := Try.func29.trans (congrArg some (by kernel_rfl)),
  f277 := Try.func30.trans (congrArg some (by kernel_rfl)),
  t0 := Try.underlying0,
  a0 := Try.isAgg0,
  z0 := Try.sizeOf0,
  v0 := Try.zeroValue0,
  t3 := Try.underlying3,
  a3 := Try.isAgg3,
  z3 := Try.sizeOf3,
  v3 := Try.zeroValue3,
  t4 := Try.underlying4,
  a4 := Try.isAgg4,
  z4 := Try.sizeOf4,
  v4 := Try.zeroValue4,
  t9 := Try.underlying9,
  a9 := Try.isAgg9,
  z9 := Try.sizeOf9,
  v9 := Try.zeroValue9,
  t20 := Try.underlying20,
  a20 := Try.isAgg20,
  z20 := Try.sizeOf20,
  v20 := Try.zeroValue20,
  t31 := Try.underlying22,
  a31 := Try.isAgg22,
  z31 := Try.sizeOf22,
  v31 := Try.zeroValue22,
  t37 := Try.underlying56,
  a37 := Try.isAgg56,
  z37 := Try.sizeOf56,
  v37 := Try.zeroValue56,
  t70 := Try.underlying59,
  a70 := Try.isAgg59,
  z70 := Try.sizeOf59,
  v70 := Try.zeroValue59,
  t72 := Try.underlying61,
  a72 := Try.isAgg61,
  z72 := Try.sizeOf61,
  v72 := Try.zeroValue61,
  t75 := Try.underlying64,
  a75 := Try.isAgg64,
  z75 := Try.sizeOf64,
  v75 := Try.zeroValue64,
  t76 := Try.underlying65,
  a76 := Try.isAgg65,
  z76 := Try.sizeOf65,
  v76 := Try.zeroValue65,
  t127 := Try.underlying68,
  a127 := Try.isAgg68,
  z127 := Try.sizeOf68,
  v127 := Try.zeroValue68,
  t164 := Try.underlying69,
  a164 := Try.isAgg69,
  z164 := Try.sizeOf69,
  v164 := Try.zeroValue69 }
theorem bx156 : Builder.Extra Try.prog ren156 := {
  sizeBuilder := by kernel_rfl, liesBuilder := by kernel_rfl, t5 := Try.underlying5, a5 := Try.isAgg5, z5 := Try.sizeOf5, v5 := Try.zeroValue5,
  infoByte := by kernel_rfl, cellsByte := by kernel_rfl, sizeByte := by kernel_rfl, neB5 := by decide }


/-- strings.Join. -/
def joinB (xs : List ByteArray) (sep : ByteArray) : ByteArray := ⟨(Lib.join (xs.map (·.data.toList)) sep.data.toList).toArray⟩

theorem flat_str : ∀ (xs : List ByteArray), flat (xs.map PV.str) = xs.map PV.str
  | [] => rfl
  | x :: r => by simp [flat, PV.cells, flat_str r]

theorem join_ok (xs : List ByteArray) (sep : ByteArray) (hN : xs.length ≤ 140737488355328) (hl : (joinB xs sep).size ≤ 140737488355328) (σ : Sto) :
    SatCall Try.prog 22 [.sl .sh 1 (xs.map PV.str), .str sep] σ fun x σ' => x = .str (joinB xs sep) ∧ σ' = σ := by
  refine satCall_pure fun G w vs hvs hr hk => ⟨.string (joinB xs sep), ?_, .str _⟩
  obtain ⟨v0, v1, rfl⟩ : ∃ a b, vs = #[a, b] := by
    obtain ⟨l⟩ := vs
    match l, hvs with
    | [a, b], _ => exact ⟨a, b, rfl⟩
  have h1 := (hr 1 v1 _ rfl rfl).toS rfl
  have h0 := (hr 0 v0 _ rfl rfl).toS rfl
  have e1 : v1 = .string sep := by cases h1 with | pl h => cases h; rfl
  subst e1
  cases h0 with
  | pl h0 =>
    generalize hm : xs.map PV.str = es at h0
    cases h0 with
    | sl0 a cap sz =>
      have : xs = [] := by simpa using hm
      subst this
      refine (Any.strings_Join_none lays156 bx156 a cap sep w).mono fun e w' h => ?_
      obtain ⟨rfl, rfl⟩ := h
      exact ⟨rfl, RowKit.Below.refl _ _⟩
    | sl ad cap sz p es vs hs hK hp hc hsz hv hr2 =>
      subst hm
      obtain ⟨blk, off, spot⟩ := ad
      simp only at hs hK hp hv
      subst hs
      rw [List.length_map] at hc hv hp ⊢
      have hl' : (Lib.join (xs.map (·.data.toList)) sep.data.toList).length ≤ 140737488355328 := by simpa [joinB, ByteArray.size] using hl
      exact Any.strings_Join lays156 bx156 blk off cap xs sep w (fun j x hx => by
        have hj : j < xs.length := (List.getElem?_eq_some_iff.1 hx).1
        have h2 := hr2 j (.str x) (by rw [flat_str, List.getElem?_map, hx]; rfl)
        have h3 := hv j (by omega)
        rw [h3]
        generalize vs j = u at h2
        cases h2; rfl) (hk blk (by rw [hK]; simp)) hN hc hl'
end Go.Proofs.Ytecleclpakiocaa.Pv
