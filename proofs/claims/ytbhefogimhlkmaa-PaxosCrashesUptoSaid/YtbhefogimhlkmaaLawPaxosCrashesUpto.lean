/- PaxosCrashesUptoSaid of the given rows: whatever the input, where what it reads is of bulk at most 1048576, the law returns true, and the input reads behind the call as before. No other condition is set. -/
import Derived.Test.YtbhefogimhlkmaaRows
import Derived.Test.YtbhefogimhlkmaaPaxK
import Derived.Test.YtbhefogimhlkmaaBulk
import Derived.WalkKit
import Derived.ProofKit
import Derived.OpenShut
import Derived.ShutString
import Derived.ChangeOld
import Derived.Below
import Derived.SizedLaws
import Derived.JoinedCond
namespace Go.Proofs.Ytbhefogimhlkmaa.paxosCrashesUpto
open Go.ChangeShapes Go.WideShapes Go.ChangeAt Go.RowKit Go.Proofs.Ytbhefogimhlkmaa.Pv
set_option linter.unusedVariables false
theorem own : ownKnob Try.prog.godebug = none := by kernel_rfl
theorem laidOut : laidOutB Try.prog = true := by kernel_rfl
set_option maxRecDepth 100000 in
theorem contract (H : Type) (enc : TypeId × Value → H) (W : World) (base : Nat) (args : Array Value) (ds gs : List (DataW H)) (before : List MemPlace)
    (hval : ∀ (j : Nat) t v, Try.f5.params[j]? = some t → args[j]? = some v → Value.okWide Try.prog W .any base t v)
    (hW : DataW.Whole enc Try.prog Try.f5.params.toList Rows.paxosCrashesSpec.vars false W args.toList ds gs before) (hk : Rows.uptoSmall H (ds ++ gs) = true) :
    Calls Try.prog 5 args W fun e W' => ∃ v, e = .returned v ∧ Rows.paxosCrashesSpec.post enc Try.prog Try.f5 false true false false W args v W' := by
  have hW' := hW
  obtain ⟨p, q, hA0, hV, rfl, hfz, hnd⟩ := hW
  have hA : DataW.TrodAll enc Try.prog W 0 (fun _ => true) true Try.f5.params.toList args.toList ds p := hA0
  rw [Try.params5] at hA hval
  obtain ⟨v0, vs0, d0, ds0, p0, q0, hargs, rfl, rfl, h0, r0⟩ := trodAll_cons hA
  obtain ⟨rfl, rfl, rfl⟩ := trodAll_nil r0
  obtain rfl : args = #[v0] := by cases args; simp_all
  obtain ⟨rfl, rfl⟩ := trodVars_none hV
  obtain ⟨c0, hc0, rp0, wt0⟩ := open_valW bulk_rows (sh := .struct [.int .i64, .struct [.int .u64, .sl 3 (.struct [.int .i64, .int .u64, .str])], .int .u64, .bool, .sl 2 (.struct [.int .i64, .sl 3 (.struct [.int .i64, .int .u64, .str])]), .int .i64, .sl 3 (.struct [.int .i64, .str, .int .u64]), .sl 1 .str, .sl 2 (.struct [.int .i64, .str]), .int .i64]) (by kernel_rfl) (hval 0 31 v0 rfl rfl) h0
  have lt0 : ∀ x ∈ p0, x.block < W.heap.size := by obtain ⟨m, hm⟩ := h0; exact DataW.trod_lt m _ _ _ hm
  have hwt : (mkV (.struct [.int .i64, .struct [.int .u64, .sl 3 (.struct [.int .i64, .int .u64, .str])], .int .u64, .bool, .sl 2 (.struct [.int .i64, .sl 3 (.struct [.int .i64, .int .u64, .str])]), .int .i64, .sl 3 (.struct [.int .i64, .str, .int .u64]), .sl 1 .str, .sl 2 (.struct [.int .i64, .str]), .int .i64]) c0).wt ≤ 1048576 := by
    have hk' : Rows.uptoBulkAll ([d0] ++ []) ≤ 1048576 := of_decide_eq_true hk
    simp only [List.append_nil, Rows.uptoBulkAll] at hk'
    omega
  refine (calls_of (paxosCrashesUpto_law c0 hc0 hwt) rfl (args := #[v0]) (W := W) ?_).mono fun e W' ⟨he, bel⟩ => ?_
  · intro j v p hv hp
    match j, hv, hp with
    | 0, hv, hp => simp at hv hp; subst hv; subst hp; exact rp0
    | j + 1, hv, hp => simp at hv
  · subst he
    exact ⟨_, rfl, _, _, _, [], _, [], hW', trodAll_mk1 (shut_bool Try.underlying4 _), (trodAll_cons_mk (Below.trod laidOut (by kernel_rfl) (of_decide_eq_true (by kernel_rfl)) h0 bel lt0) trodAll_mk0), rfl, bel.frame _, fun h => by cases h⟩
set_option maxRecDepth 100000 in
theorem lifted (os : Os) (started : os.Started) (H : Type) (enc : TypeId × Value → H) (F : Stop.Interp) :
    ReturnsInHanded {} Try.checked os 5 .any ((Rows.OpenSpec.upto Rows.paxosCrashesSpec).pre6 enc Try.prog Try.f5 Rows.paxosCrashesUptoRow.domain false) (((Rows.OpenSpec.upto Rows.paxosCrashesSpec).at F).post enc Try.prog Try.f5 false true false false) := by
  refine returnsInHanded_of_cond (C := Try.checked) (s := Rows.OpenSpec.upto Rows.paxosCrashesSpec) (k := Rows.uptoSmall) rfl own started (by kernel_rfl) Try.func5
    (OpenSpec.witness (enc := enc) (C := Try.checked) (s := Rows.OpenSpec.upto Rows.paxosCrashesSpec) (k := Rows.uptoSmall) rfl false ⟨#[], #[.agg #[.int .i64 0, .int .u64 0, .slice none 0 0, .int .u64 0, .bool false, .slice none 0 0, .int .i64 0, .slice none 0 0, .slice none 0 0, .slice none 0 0, .int .i64 0]], []⟩ 8 (by kernel_rfl) (by kernel_rfl) (by kernel_rfl)
      (x := ([.agg [.lit (.int .i64 0), .agg [.lit (.int .u64 0), .nil], .lit (.int .u64 0), .lit (.bool false), .nil, .lit (.int .i64 0), .nil, .nil, .nil, .lit (.int .i64 0)]], [], [])) (by kernel_rfl) rfl (by kernel_rfl)) ?_
  intro W base args ds gs before hval hW _ hk _
  exact contract H enc W base args ds gs before hval hW hk
theorem over : Rows.PaxosCrashesUptoSaid :=
  OpenClaim.holds_of_cond 5 Try.f5 rfl rfl rfl rfl rfl rfl rfl ⟨rfl, rfl, rfl, rfl, rfl⟩ rfl rfl rfl rfl rfl (by kernel_rfl) Try.func5 (by kernel_rfl)
    (of_decide_eq_true (by kernel_rfl)) (by unfold Func.isWrapper; first | (rw [if_pos (by decide +kernel)]; kernel_rfl) | (rw [if_neg (by decide +kernel)]; exact ⟨rfl, rfl⟩))
    (fun os started H enc _ F => lifted os started H enc F)
theorem proved : Rows.PaxosCrashesUptoSaid := over
#print axioms proved
end Go.Proofs.Ytbhefogimhlkmaa.paxosCrashesUpto
namespace Go.Proofs.Ytbhefogimhlkmaa
/-- The row, under a short name. -/
theorem paxosCrashesUpto_holds : Rows.PaxosCrashesUptoSaid := paxosCrashesUpto.proved
end Go.Proofs.Ytbhefogimhlkmaa
