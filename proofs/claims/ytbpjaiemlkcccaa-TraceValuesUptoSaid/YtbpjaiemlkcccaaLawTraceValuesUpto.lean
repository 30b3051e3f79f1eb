/- TraceValuesUptoSaid of the given rows: whatever the input, where what it reads is of bulk at most 1048576, the law returns true, and the input reads behind the call as before. No other condition is set. -/
import Derived.Test.YtbpjaiemlkcccaaRows
import Derived.Test.YtbpjaiemlkcccaaTrcEl
import Derived.Test.YtbpjaiemlkcccaaBulk
import Derived.WalkKit
import Derived.ProofKit
import Derived.OpenShut
import Derived.ShutString
import Derived.ChangeOld
import Derived.Below
import Derived.SizedLaws
import Derived.JoinedCond
namespace Go.Proofs.Ytbpjaiemlkcccaa.traceValuesUpto
open Go.ChangeShapes Go.WideShapes Go.ChangeAt Go.RowKit Go.Proofs.Ytbpjaiemlkcccaa.Pv
set_option linter.unusedVariables false
theorem own : ownKnob Try.prog.godebug = none := by kernel_rfl
theorem laidOut : laidOutB Try.prog = true := by kernel_rfl
set_option maxRecDepth 100000 in
theorem contract (H : Type) (enc : TypeId × Value → H) (W : World) (base : Nat) (args : Array Value) (ds gs : List (DataW H)) (before : List MemPlace)
    (hval : ∀ (j : Nat) t v, Try.f8.params[j]? = some t → args[j]? = some v → Value.okWide Try.prog W .any base t v)
    (hW : DataW.Whole enc Try.prog Try.f8.params.toList Rows.traceValuesSpec.vars false W args.toList ds gs before) (hk : Rows.uptoSmall H (ds ++ gs) = true) :
    Calls Try.prog 8 args W fun e W' => ∃ v, e = .returned v ∧ Rows.traceValuesSpec.post enc Try.prog Try.f8 false true false false W args v W' := by
  have hW' := hW
  obtain ⟨p, q, hA0, hV, rfl, hfz, hnd⟩ := hW
  have hA : DataW.TrodAll enc Try.prog W 0 (fun _ => true) true Try.f8.params.toList args.toList ds p := hA0
  rw [Try.params8] at hA hval
  obtain ⟨v0, vs0, d0, ds0, p0, q0, hargs, rfl, rfl, h0, r0⟩ := trodAll_cons hA
  obtain ⟨rfl, rfl, rfl⟩ := trodAll_nil r0
  obtain rfl : args = #[v0] := by cases args; simp_all
  obtain ⟨rfl, rfl⟩ := trodVars_none hV
  obtain ⟨c0, hc0, rp0, wt0⟩ := aep aeo (sh := .struct [.sl 11 (.struct [.int .i64, .int .i64, .int .i64, .int .i64, .str, .struct [.int .i64, .int .i64, .int .i64, .int .i64, .int .u32, .bool]]), .sl 3 (.struct [.int .i64, .int .i64, .str]), .str, .int .i64, .struct [.int .i64, .int .i64, .struct [.int .i64, .int .i64, .int .i64, .int .i64, .int .u32, .bool]], .struct [.int .i64, .int .i64, .struct [.int .i64, .int .i64, .int .i64, .int .i64, .int .u32, .bool]]]) (by kernel_rfl) (hval 0 61 v0 rfl rfl) h0
  have lt0 : ∀ x ∈ p0, x.block < W.heap.size := by obtain ⟨m, hm⟩ := h0; exact DataW.trod_lt m _ _ _ hm
  have hwt : (mkV (.struct [.sl 11 (.struct [.int .i64, .int .i64, .int .i64, .int .i64, .str, .struct [.int .i64, .int .i64, .int .i64, .int .i64, .int .u32, .bool]]), .sl 3 (.struct [.int .i64, .int .i64, .str]), .str, .int .i64, .struct [.int .i64, .int .i64, .struct [.int .i64, .int .i64, .int .i64, .int .i64, .int .u32, .bool]], .struct [.int .i64, .int .i64, .struct [.int .i64, .int .i64, .int .i64, .int .i64, .int .u32, .bool]]]) c0).wt ≤ 1048576 := by
    have hk' : Rows.uptoBulkAll ([d0] ++ []) ≤ 1048576 := of_decide_eq_true hk
    simp only [List.append_nil, Rows.uptoBulkAll] at hk'
    omega
  refine (ahh (ahi c0 hc0 hwt) rfl (args := #[v0]) (W := W) ?_).mono fun e W' ⟨he, bel⟩ => ?_
  · intro j v p hv hp
    match j, hv, hp with
    | 0, hv, hp => simp at hv hp; subst hv; subst hp; exact rp0
    | j + 1, hv, hp => simp at hv
  · subst he
    exact ⟨_, rfl, _, _, _, [], _, [], hW', trodAll_mk1 (shut_bool Try.underlying4 _), (trodAll_cons_mk (Below.trod laidOut (by kernel_rfl) (of_decide_eq_true (by kernel_rfl)) h0 bel lt0) trodAll_mk0), rfl, bel.frame _, fun h => by cases h⟩
set_option maxRecDepth 100000 in
theorem lifted (os : Os) (started : os.Started) (H : Type) (enc : TypeId × Value → H) (F : Stop.Interp) :
    ReturnsInHanded {} Try.checked os 8 .any ((Rows.OpenSpec.upto Rows.traceValuesSpec).pre6 enc Try.prog Try.f8 Rows.traceValuesUptoRow.domain false) (((Rows.OpenSpec.upto Rows.traceValuesSpec).at F).post enc Try.prog Try.f8 false true false false) := by
  refine returnsInHanded_of_cond (C := Try.checked) (s := Rows.OpenSpec.upto Rows.traceValuesSpec) (k := Rows.uptoSmall) rfl own started (by kernel_rfl) Try.func8
    (OpenSpec.witness (enc := enc) (C := Try.checked) (s := Rows.OpenSpec.upto Rows.traceValuesSpec) (k := Rows.uptoSmall) rfl false ⟨#[], #[.agg #[.slice none 0 0, .slice none 0 0, .string .empty, .int .i64 0, .int .i64 0, .int .i64 0, .int .i64 0, .int .i64 0, .int .i64 0, .int .i64 0, .int .u32 0, .bool false, .int .i64 0, .int .i64 0, .int .i64 0, .int .i64 0, .int .i64 0, .int .i64 0, .int .u32 0, .bool false]], []⟩ 8 (by kernel_rfl) (by kernel_rfl) (by kernel_rfl)
      (x := ([.agg [.nil, .nil, .lit (.string []), .lit (.int .i64 0), .agg [.lit (.int .i64 0), .lit (.int .i64 0), .agg [.lit (.int .i64 0), .lit (.int .i64 0), .lit (.int .i64 0), .lit (.int .i64 0), .lit (.int .u32 0), .lit (.bool false)]], .agg [.lit (.int .i64 0), .lit (.int .i64 0), .agg [.lit (.int .i64 0), .lit (.int .i64 0), .lit (.int .i64 0), .lit (.int .i64 0), .lit (.int .u32 0), .lit (.bool false)]]]], [], [])) (by kernel_rfl) rfl (by kernel_rfl)) ?_
  intro W base args ds gs before hval hW _ hk _
  exact contract H enc W base args ds gs before hval hW hk
theorem over : Rows.TraceValuesUptoSaid :=
  OpenClaim.holds_of_cond 8 Try.f8 rfl rfl rfl rfl rfl rfl rfl ⟨rfl, rfl, rfl, rfl, rfl⟩ rfl rfl rfl rfl rfl (by kernel_rfl) Try.func8 (by kernel_rfl)
    (of_decide_eq_true (by kernel_rfl)) (by unfold Func.isWrapper; first | (rw [if_pos (by decide +kernel)]; kernel_rfl) | (rw [if_neg (by decide +kernel)]; exact ⟨rfl, rfl⟩))
    (fun os started H enc _ F => lifted os started H enc F)
theorem proved : Rows.TraceValuesUptoSaid := over
#print axioms proved
end Go.Proofs.Ytbpjaiemlkcccaa.traceValuesUpto
namespace Go.Proofs.Ytbpjaiemlkcccaa
/-- The row, under a short name. -/
theorem traceValuesUpto_holds : Rows.TraceValuesUptoSaid := traceValuesUpto.proved
end Go.Proofs.Ytbpjaiemlkcccaa
