/-
  No cell of these rows narrows 'for every input' (looked for: loops, veiled, ifaces, maps, wideKeys, modest, calm, conditions, laid).
  DERIVED. THE GIVEN ROWS OF THIS SEAT. 6 by the template 'for every input the law returns true; each argument reads behind the call as it read before'; 0 by the template 'total and deterministic' (their statements: YtbpjaiemlkcccaaTotals.lean).
  GIVEN WITH THE SEED: the statements are not yours to turn. If you find one false, say at which input.
  Laid BY PROGRAM, IN A SANDBOX (cutbox-rows.mjs): the forced cells as the released guide's own fill.sh prints them over the translation 0ca4d79956562b39… (all of the seat's roots in one cut). By AI agents, Wed Nov 11 2026. No macro, syntax, notation, axiom, sorry.
-/
import Derived.Test.YtbpjaiemlkcccaaChecked
import GoSem.Claim
import GoSem.ClaimJoined
import GoSem.ClaimMapViews
import Derived.JoinedTies
import Derived.KernelRfl
namespace Go.Proofs.Ytbpjaiemlkcccaa
/- THE CELL 'sum', in the pinned program and in every row, IS THE sha256 OF THE DUMP (.gsa) THAT YtbpjaiemlkcccaaProg.lean LOADS. Nothing in Lean hashes anything: it is a label: what it is worth is what the hold of that sum in a sandbox is worth. -/
noncomputable def Try.pinned : Pinned := { name := "ytbpjaiemlkcccaa", sum := "0ca4d79956562b390614214698c78a16eb2fd9db1bbf3045c0fa0faff81c95ff", checked := Try.checked }
namespace Rows
def none {H : Type} : Left H := { results := [], args := [] }

/-- 'hogsheadlaw18.TraceOnce': WHATEVER THE INPUT: true; the input reads as it did. -/
def traceOnceSpec : ChangeSpec := { name := "traceOnce", fn := fun _ => fun
  | [d] => { results := [.lit (.bool true)], args := [d] }
  | _ => none }
def traceOnceRow : OpenClaim := { program := "ytbpjaiemlkcccaa", sum := "0ca4d79956562b390614214698c78a16eb2fd9db1bbf3045c0fa0faff81c95ff", func := "hogshead/hogsheadlaw18.TraceOnce", spec := "traceOnce", inPlace := ["slices.overlaps[hogshead/api.Name]"], unfollowed := true, recurses := true, apart := false }
def TraceOnceSaid : Prop := traceOnceRow.holds Try.pinned (OpenSpec.ofChange traceOnceSpec)

/-- ITS FALSE NEIGHBOUR: 'it returns false'. Refute it at one input. -/
def traceOnceWrong : ChangeSpec := { name := "traceOnce", fn := fun _ => fun
  | [d] => { results := [.lit (.bool false)], args := [d] }
  | _ => none }
def TraceOnceWrongFalsely : Prop := traceOnceRow.holds Try.pinned (OpenSpec.ofChange traceOnceWrong)

/-- 'hogsheadlaw18.TraceGrows': WHATEVER THE INPUT: true; the input reads as it did. -/
def traceGrowsSpec : ChangeSpec := { name := "traceGrows", fn := fun _ => fun
  | [d1, d2] => { results := [.lit (.bool true)], args := [d1, d2] }
  | _ => none }
def traceGrowsRow : OpenClaim := { program := "ytbpjaiemlkcccaa", sum := "0ca4d79956562b390614214698c78a16eb2fd9db1bbf3045c0fa0faff81c95ff", func := "hogshead/hogsheadlaw18.TraceGrows", spec := "traceGrows", inPlace := ["slices.overlaps[hogshead/api.Name]"], unfollowed := true, recurses := true, apart := false }
def TraceGrowsSaid : Prop := traceGrowsRow.holds Try.pinned (OpenSpec.ofChange traceGrowsSpec)

/-- ITS FALSE NEIGHBOUR: 'it returns false'. Refute it at one input. -/
def traceGrowsWrong : ChangeSpec := { name := "traceGrows", fn := fun _ => fun
  | [d1, d2] => { results := [.lit (.bool false)], args := [d1, d2] }
  | _ => none }
def TraceGrowsWrongFalsely : Prop := traceGrowsRow.holds Try.pinned (OpenSpec.ofChange traceGrowsWrong)

/-- 'hogsheadlaw18.TraceReplays': WHATEVER THE INPUT: true; the input reads as it did. -/
def traceReplaysSpec : ChangeSpec := { name := "traceReplays", fn := fun _ => fun
  | [d1, d2, d3] => { results := [.lit (.bool true)], args := [d1, d2, d3] }
  | _ => none }
def traceReplaysRow : OpenClaim := { program := "ytbpjaiemlkcccaa", sum := "0ca4d79956562b390614214698c78a16eb2fd9db1bbf3045c0fa0faff81c95ff", func := "hogshead/hogsheadlaw18.TraceReplays", spec := "traceReplays", inPlace := ["slices.overlaps[hogshead/api.Name]"], unfollowed := true, recurses := true, apart := false }
def TraceReplaysSaid : Prop := traceReplaysRow.holds Try.pinned (OpenSpec.ofChange traceReplaysSpec)

/-- ITS FALSE NEIGHBOUR: 'it returns false'. Refute it at one input. -/
def traceReplaysWrong : ChangeSpec := { name := "traceReplays", fn := fun _ => fun
  | [d1, d2, d3] => { results := [.lit (.bool false)], args := [d1, d2, d3] }
  | _ => none }
def TraceReplaysWrongFalsely : Prop := traceReplaysRow.holds Try.pinned (OpenSpec.ofChange traceReplaysWrong)

/-- 'hogsheadlaw18.TraceNames': WHATEVER THE INPUT: true; the input reads as it did. -/
def traceNamesSpec : ChangeSpec := { name := "traceNames", fn := fun _ => fun
  | [d1, d2] => { results := [.lit (.bool true)], args := [d1, d2] }
  | _ => none }
def traceNamesRow : OpenClaim := { program := "ytbpjaiemlkcccaa", sum := "0ca4d79956562b390614214698c78a16eb2fd9db1bbf3045c0fa0faff81c95ff", func := "hogshead/hogsheadlaw18.TraceNames", spec := "traceNames", inPlace := ["slices.overlaps[hogshead/api.Name]"], unfollowed := true, recurses := true, apart := false }
def TraceNamesSaid : Prop := traceNamesRow.holds Try.pinned (OpenSpec.ofChange traceNamesSpec)

/-- ITS FALSE NEIGHBOUR: 'it returns false'. Refute it at one input. -/
def traceNamesWrong : ChangeSpec := { name := "traceNames", fn := fun _ => fun
  | [d1, d2] => { results := [.lit (.bool false)], args := [d1, d2] }
  | _ => none }
def TraceNamesWrongFalsely : Prop := traceNamesRow.holds Try.pinned (OpenSpec.ofChange traceNamesWrong)

/-- 'hogsheadlaw18.TraceFirst': WHATEVER THE INPUT: true; the input reads as it did. -/
def traceFirstSpec : ChangeSpec := { name := "traceFirst", fn := fun _ => fun
  | [d] => { results := [.lit (.bool true)], args := [d] }
  | _ => none }
def traceFirstRow : OpenClaim := { program := "ytbpjaiemlkcccaa", sum := "0ca4d79956562b390614214698c78a16eb2fd9db1bbf3045c0fa0faff81c95ff", func := "hogshead/hogsheadlaw18.TraceFirst", spec := "traceFirst", inPlace := ["slices.overlaps[hogshead/api.Name]"], unfollowed := true, recurses := true, apart := false }
def TraceFirstSaid : Prop := traceFirstRow.holds Try.pinned (OpenSpec.ofChange traceFirstSpec)

/-- ITS FALSE NEIGHBOUR: 'it returns false'. Refute it at one input. -/
def traceFirstWrong : ChangeSpec := { name := "traceFirst", fn := fun _ => fun
  | [d] => { results := [.lit (.bool false)], args := [d] }
  | _ => none }
def TraceFirstWrongFalsely : Prop := traceFirstRow.holds Try.pinned (OpenSpec.ofChange traceFirstWrong)

/-- 'hogsheadlaw18.TraceValues': WHATEVER THE INPUT: true; the input reads as it did. -/
def traceValuesSpec : ChangeSpec := { name := "traceValues", fn := fun _ => fun
  | [d] => { results := [.lit (.bool true)], args := [d] }
  | _ => none }
def traceValuesRow : OpenClaim := { program := "ytbpjaiemlkcccaa", sum := "0ca4d79956562b390614214698c78a16eb2fd9db1bbf3045c0fa0faff81c95ff", func := "hogshead/hogsheadlaw18.TraceValues", spec := "traceValues", inPlace := ["slices.overlaps[hogshead/api.Name]"], unfollowed := true, recurses := true, apart := false }
def TraceValuesSaid : Prop := traceValuesRow.holds Try.pinned (OpenSpec.ofChange traceValuesSpec)

/-- ITS FALSE NEIGHBOUR: 'it returns false'. Refute it at one input. -/
def traceValuesWrong : ChangeSpec := { name := "traceValues", fn := fun _ => fun
  | [d] => { results := [.lit (.bool false)], args := [d] }
  | _ => none }
def TraceValuesWrongFalsely : Prop := traceValuesRow.holds Try.pinned (OpenSpec.ofChange traceValuesWrong)

/- THE SECOND FORM. 'bulk': how many values and letters a reading holds, each counted each time it is reached (what is shared counts as often as it is met; a slice's spare places count too). A statement '..UptoSaid' is the law's where the arguments, and the package variables that the reading takes, are together of bulk at most 1048576: NARROWER than '..Said'. Prove '..Said' where nothing that the law and all that it calls make is longer than what came in: it says more and counts as full. Else prove '..UptoSaid'. A law counts once. -/
mutual
def uptoBulk {H : Type} : DataW H → Nat
  | .lit (.string bytes) => bytes.length + 1
  | .lit _ => 1
  | .nil => 1
  | .ptr d => uptoBulk d + 1
  | .slice elems spare => uptoBulkAll elems + uptoBulkAll spare + 1
  | .agg parts => uptoBulkAll parts + 1
  | .iface _ d => uptoBulk d + 1
  | .map entries => uptoBulkEntries entries + 1
  | .held _ => 1
def uptoBulkAll {H : Type} : List (DataW H) → Nat
  | [] => 0
  | d :: r => uptoBulk d + uptoBulkAll r
def uptoBulkEntries {H : Type} : List (Lit × DataW H) → Nat
  | [] => 0
  | x :: r => uptoBulkEntry x + uptoBulkEntries r
def uptoBulkEntry {H : Type} : Lit × DataW H → Nat
  | (.string bytes, d) => bytes.length + uptoBulk d + 1
  | (_, d) => uptoBulk d + 1
 end
def uptoSmall : (H : Type) → List (DataW H) → Bool := fun _ ds => decide (uptoBulkAll ds ≤ 1048576)
def OpenSpec.upto (s : _root_.Go.ChangeSpec) : _root_.Go.OpenSpec := { _root_.Go.OpenSpec.ofChange s with cond := some uptoSmall }

/-- 'hogsheadlaw18.TraceOnce', WHERE WHAT IT READS IS OF BULK AT MOST 1048576: true; the input reads as it did. -/
def traceOnceUptoRow : OpenClaim := { program := "ytbpjaiemlkcccaa", sum := "0ca4d79956562b390614214698c78a16eb2fd9db1bbf3045c0fa0faff81c95ff", func := "hogshead/hogsheadlaw18.TraceOnce", spec := "traceOnce", inPlace := ["slices.overlaps[hogshead/api.Name]"], unfollowed := true, recurses := true, apart := false, narrowed := true }
def TraceOnceUptoSaid : Prop := traceOnceUptoRow.holds Try.pinned (OpenSpec.upto traceOnceSpec)

/-- 'hogsheadlaw18.TraceGrows', WHERE WHAT IT READS IS OF BULK AT MOST 1048576: true; the input reads as it did. -/
def traceGrowsUptoRow : OpenClaim := { program := "ytbpjaiemlkcccaa", sum := "0ca4d79956562b390614214698c78a16eb2fd9db1bbf3045c0fa0faff81c95ff", func := "hogshead/hogsheadlaw18.TraceGrows", spec := "traceGrows", inPlace := ["slices.overlaps[hogshead/api.Name]"], unfollowed := true, recurses := true, apart := false, narrowed := true }
def TraceGrowsUptoSaid : Prop := traceGrowsUptoRow.holds Try.pinned (OpenSpec.upto traceGrowsSpec)

/-- 'hogsheadlaw18.TraceReplays', WHERE WHAT IT READS IS OF BULK AT MOST 1048576: true; the input reads as it did. -/
def traceReplaysUptoRow : OpenClaim := { program := "ytbpjaiemlkcccaa", sum := "0ca4d79956562b390614214698c78a16eb2fd9db1bbf3045c0fa0faff81c95ff", func := "hogshead/hogsheadlaw18.TraceReplays", spec := "traceReplays", inPlace := ["slices.overlaps[hogshead/api.Name]"], unfollowed := true, recurses := true, apart := false, narrowed := true }
def TraceReplaysUptoSaid : Prop := traceReplaysUptoRow.holds Try.pinned (OpenSpec.upto traceReplaysSpec)

/-- 'hogsheadlaw18.TraceNames', WHERE WHAT IT READS IS OF BULK AT MOST 1048576: true; the input reads as it did. -/
def traceNamesUptoRow : OpenClaim := { program := "ytbpjaiemlkcccaa", sum := "0ca4d79956562b390614214698c78a16eb2fd9db1bbf3045c0fa0faff81c95ff", func := "hogshead/hogsheadlaw18.TraceNames", spec := "traceNames", inPlace := ["slices.overlaps[hogshead/api.Name]"], unfollowed := true, recurses := true, apart := false, narrowed := true }
def TraceNamesUptoSaid : Prop := traceNamesUptoRow.holds Try.pinned (OpenSpec.upto traceNamesSpec)

/-- 'hogsheadlaw18.TraceFirst', WHERE WHAT IT READS IS OF BULK AT MOST 1048576: true; the input reads as it did. -/
def traceFirstUptoRow : OpenClaim := { program := "ytbpjaiemlkcccaa", sum := "0ca4d79956562b390614214698c78a16eb2fd9db1bbf3045c0fa0faff81c95ff", func := "hogshead/hogsheadlaw18.TraceFirst", spec := "traceFirst", inPlace := ["slices.overlaps[hogshead/api.Name]"], unfollowed := true, recurses := true, apart := false, narrowed := true }
def TraceFirstUptoSaid : Prop := traceFirstUptoRow.holds Try.pinned (OpenSpec.upto traceFirstSpec)

/-- 'hogsheadlaw18.TraceValues', WHERE WHAT IT READS IS OF BULK AT MOST 1048576: true; the input reads as it did. -/
def traceValuesUptoRow : OpenClaim := { program := "ytbpjaiemlkcccaa", sum := "0ca4d79956562b390614214698c78a16eb2fd9db1bbf3045c0fa0faff81c95ff", func := "hogshead/hogsheadlaw18.TraceValues", spec := "traceValues", inPlace := ["slices.overlaps[hogshead/api.Name]"], unfollowed := true, recurses := true, apart := false, narrowed := true }
def TraceValuesUptoSaid : Prop := traceValuesUptoRow.holds Try.pinned (OpenSpec.upto traceValuesSpec)

end Rows
end Go.Proofs.Ytbpjaiemlkcccaa
