/-
  No cell of these rows narrows 'for every input' (looked for: loops, veiled, ifaces, maps, wideKeys, modest, calm, conditions, laid).
  DERIVED. THE GIVEN ROWS OF THIS SEAT. 7 by the template 'for every input the law returns true; each argument reads behind the call as it read before'; 0 by the template 'total and deterministic' (their statements: YtecleclpakiocaaTotals.lean).
  GIVEN WITH THE SEED: the statements are not yours to turn. If you find one false, say at which input.
  Laid BY PROGRAM, IN A SANDBOX (cutbox-rows.mjs): the forced cells as the released guide's own fill.sh prints them over the translation 26ae719e249cbb06… (all of the seat's roots in one cut). By AI agents, Wed Nov 11 2026. No macro, syntax, notation, axiom, sorry.
-/
import Derived.Test.YtecleclpakiocaaChecked
import GoSem.Claim
import GoSem.ClaimJoined
import GoSem.ClaimMapViews
import Derived.JoinedTies
import Derived.KernelRfl
namespace Go.Proofs.Ytecleclpakiocaa
/- THE CELL 'sum', in the pinned program and in every row, IS THE sha256 OF THE DUMP (.gsa) THAT YtecleclpakiocaaProg.lean LOADS. Nothing in Lean hashes anything: it is a label: what it is worth is what the hold of that sum in a sandbox is worth. -/
noncomputable def Try.pinned : Pinned := { name := "ytecleclpakiocaa", sum := "26ae719e249cbb06e9e1e89d9aca2c358a0b18be03c2cd0a05f8a645420959da", checked := Try.checked }
namespace Rows
def none {H : Type} : Left H := { results := [], args := [] }

/-- 'hogsheadlaw06.BlockSplits': WHATEVER THE INPUT: true; the input reads as it did. -/
def blockSplitsSpec : ChangeSpec := { name := "blockSplits", fn := fun _ => fun
  | [d] => { results := [.lit (.bool true)], args := [d] }
  | _ => none }
def blockSplitsRow : OpenClaim := { program := "ytecleclpakiocaa", sum := "26ae719e249cbb06e9e1e89d9aca2c358a0b18be03c2cd0a05f8a645420959da", func := "hogshead/hogsheadlaw06.BlockSplits", spec := "blockSplits", inPlace := ["internal/abi.NoEscape", "internal/bytealg.MakeNoZero"], apart := false }
def BlockSplitsSaid : Prop := blockSplitsRow.holds Try.pinned (OpenSpec.ofChange blockSplitsSpec)

/-- ITS FALSE NEIGHBOUR: 'it returns false'. Refute it at one input. -/
def blockSplitsWrong : ChangeSpec := { name := "blockSplits", fn := fun _ => fun
  | [d] => { results := [.lit (.bool false)], args := [d] }
  | _ => none }
def BlockSplitsWrongFalsely : Prop := blockSplitsRow.holds Try.pinned (OpenSpec.ofChange blockSplitsWrong)

/-- 'hogsheadlaw06.BlockBack': WHATEVER THE INPUT: true; the input reads as it did. -/
def blockBackSpec : ChangeSpec := { name := "blockBack", fn := fun _ => fun
  | [d1, d2] => { results := [.lit (.bool true)], args := [d1, d2] }
  | _ => none }
def blockBackRow : OpenClaim := { program := "ytecleclpakiocaa", sum := "26ae719e249cbb06e9e1e89d9aca2c358a0b18be03c2cd0a05f8a645420959da", func := "hogshead/hogsheadlaw06.BlockBack", spec := "blockBack", inPlace := ["internal/abi.NoEscape", "internal/bytealg.MakeNoZero"], apart := false }
def BlockBackSaid : Prop := blockBackRow.holds Try.pinned (OpenSpec.ofChange blockBackSpec)

/-- ITS FALSE NEIGHBOUR: 'it returns false'. Refute it at one input. -/
def blockBackWrong : ChangeSpec := { name := "blockBack", fn := fun _ => fun
  | [d1, d2] => { results := [.lit (.bool false)], args := [d1, d2] }
  | _ => none }
def BlockBackWrongFalsely : Prop := blockBackRow.holds Try.pinned (OpenSpec.ofChange blockBackWrong)

/-- 'hogsheadlaw06.BlockLast': WHATEVER THE INPUT: true; the input reads as it did. -/
def blockLastSpec : ChangeSpec := { name := "blockLast", fn := fun _ => fun
  | [d1, d2] => { results := [.lit (.bool true)], args := [d1, d2] }
  | _ => none }
def blockLastRow : OpenClaim := { program := "ytecleclpakiocaa", sum := "26ae719e249cbb06e9e1e89d9aca2c358a0b18be03c2cd0a05f8a645420959da", func := "hogshead/hogsheadlaw06.BlockLast", spec := "blockLast", inPlace := ["internal/abi.NoEscape", "internal/bytealg.MakeNoZero"], apart := false }
def BlockLastSaid : Prop := blockLastRow.holds Try.pinned (OpenSpec.ofChange blockLastSpec)

/-- ITS FALSE NEIGHBOUR: 'it returns false'. Refute it at one input. -/
def blockLastWrong : ChangeSpec := { name := "blockLast", fn := fun _ => fun
  | [d1, d2] => { results := [.lit (.bool false)], args := [d1, d2] }
  | _ => none }
def BlockLastWrongFalsely : Prop := blockLastRow.holds Try.pinned (OpenSpec.ofChange blockLastWrong)

/-- 'hogsheadlaw06.BlockCuts': WHATEVER THE INPUT: true; the input reads as it did. -/
def blockCutsSpec : ChangeSpec := { name := "blockCuts", fn := fun _ => fun
  | [d] => { results := [.lit (.bool true)], args := [d] }
  | _ => none }
def blockCutsRow : OpenClaim := { program := "ytecleclpakiocaa", sum := "26ae719e249cbb06e9e1e89d9aca2c358a0b18be03c2cd0a05f8a645420959da", func := "hogshead/hogsheadlaw06.BlockCuts", spec := "blockCuts", inPlace := ["internal/abi.NoEscape", "internal/bytealg.MakeNoZero"], apart := false }
def BlockCutsSaid : Prop := blockCutsRow.holds Try.pinned (OpenSpec.ofChange blockCutsSpec)

/-- ITS FALSE NEIGHBOUR: 'it returns false'. Refute it at one input. -/
def blockCutsWrong : ChangeSpec := { name := "blockCuts", fn := fun _ => fun
  | [d] => { results := [.lit (.bool false)], args := [d] }
  | _ => none }
def BlockCutsWrongFalsely : Prop := blockCutsRow.holds Try.pinned (OpenSpec.ofChange blockCutsWrong)

/-- 'hogsheadlaw06.BlockTwice': WHATEVER THE INPUT: true; the input reads as it did. -/
def blockTwiceSpec : ChangeSpec := { name := "blockTwice", fn := fun _ => fun
  | [d1, d2] => { results := [.lit (.bool true)], args := [d1, d2] }
  | _ => none }
def blockTwiceRow : OpenClaim := { program := "ytecleclpakiocaa", sum := "26ae719e249cbb06e9e1e89d9aca2c358a0b18be03c2cd0a05f8a645420959da", func := "hogshead/hogsheadlaw06.BlockTwice", spec := "blockTwice", inPlace := ["internal/abi.NoEscape", "internal/bytealg.MakeNoZero"], apart := false }
def BlockTwiceSaid : Prop := blockTwiceRow.holds Try.pinned (OpenSpec.ofChange blockTwiceSpec)

/-- ITS FALSE NEIGHBOUR: 'it returns false'. Refute it at one input. -/
def blockTwiceWrong : ChangeSpec := { name := "blockTwice", fn := fun _ => fun
  | [d1, d2] => { results := [.lit (.bool false)], args := [d1, d2] }
  | _ => none }
def BlockTwiceWrongFalsely : Prop := blockTwiceRow.holds Try.pinned (OpenSpec.ofChange blockTwiceWrong)

/-- 'hogsheadlaw06.BlockSums': WHATEVER THE INPUT: true; the input reads as it did. -/
def blockSumsSpec : ChangeSpec := { name := "blockSums", fn := fun _ => fun
  | [d1, d2, d3] => { results := [.lit (.bool true)], args := [d1, d2, d3] }
  | _ => none }
def blockSumsRow : OpenClaim := { program := "ytecleclpakiocaa", sum := "26ae719e249cbb06e9e1e89d9aca2c358a0b18be03c2cd0a05f8a645420959da", func := "hogshead/hogsheadlaw06.BlockSums", spec := "blockSums", inPlace := ["internal/abi.NoEscape", "internal/bytealg.MakeNoZero"], apart := false }
def BlockSumsSaid : Prop := blockSumsRow.holds Try.pinned (OpenSpec.ofChange blockSumsSpec)

/-- ITS FALSE NEIGHBOUR: 'it returns false'. Refute it at one input. -/
def blockSumsWrong : ChangeSpec := { name := "blockSums", fn := fun _ => fun
  | [d1, d2, d3] => { results := [.lit (.bool false)], args := [d1, d2, d3] }
  | _ => none }
def BlockSumsWrongFalsely : Prop := blockSumsRow.holds Try.pinned (OpenSpec.ofChange blockSumsWrong)

/-- 'hogsheadlaw06.BlockLays': WHATEVER THE INPUT: true; the input reads as it did. -/
def blockLaysSpec : ChangeSpec := { name := "blockLays", fn := fun _ => fun
  | [d] => { results := [.lit (.bool true)], args := [d] }
  | _ => none }
def blockLaysRow : OpenClaim := { program := "ytecleclpakiocaa", sum := "26ae719e249cbb06e9e1e89d9aca2c358a0b18be03c2cd0a05f8a645420959da", func := "hogshead/hogsheadlaw06.BlockLays", spec := "blockLays", inPlace := ["internal/abi.NoEscape", "internal/bytealg.MakeNoZero"], apart := false }
def BlockLaysSaid : Prop := blockLaysRow.holds Try.pinned (OpenSpec.ofChange blockLaysSpec)

/-- ITS FALSE NEIGHBOUR: 'it returns false'. Refute it at one input. -/
def blockLaysWrong : ChangeSpec := { name := "blockLays", fn := fun _ => fun
  | [d] => { results := [.lit (.bool false)], args := [d] }
  | _ => none }
def BlockLaysWrongFalsely : Prop := blockLaysRow.holds Try.pinned (OpenSpec.ofChange blockLaysWrong)

/- THE SECOND FORM. 'bulk': how many values and letters a reading holds, each counted each time it is reached (what is shared counts as often as it is met; a slice's spare places count too). A statement '..UptoSaid' is the law's where the arguments, and the package variables that the reading takes, are together of bulk at most 1048576: NARROWER than '..Said'. Prove '..Said' where nothing that the law and all that it calls make is longer than what came in: it says more and counts as full. Else prove '..UptoSaid'. A law counts once. -/
mutual
def uptoBulk {H : Type} : DataW H → Nat
  | .lit (.string bytes) => bytes.length + 1
  | .lit _ => 1
  | .nil => 1
  | .ptr d => uptoBulk d + 1
  | .slice elems spare => uptoBulkAll elems + uptoBulkAll spare + 1
  | .agg parts => uptoBulkAll parts + 1
  | .iface _ d => uptoBulk d + 1
  | .map entries => uptoBulkEntries entries + 1
  | .held _ => 1
def uptoBulkAll {H : Type} : List (DataW H) → Nat
  | [] => 0
  | d :: r => uptoBulk d + uptoBulkAll r
def uptoBulkEntries {H : Type} : List (Lit × DataW H) → Nat
  | [] => 0
  | x :: r => uptoBulkEntry x + uptoBulkEntries r
def uptoBulkEntry {H : Type} : Lit × DataW H → Nat
  | (.string bytes, d) => bytes.length + uptoBulk d + 1
  | (_, d) => uptoBulk d + 1
 end
def uptoSmall : (H : Type) → List (DataW H) → Bool := fun _ ds => decide (uptoBulkAll ds ≤ 1048576)
def OpenSpec.upto (s : _root_.Go.ChangeSpec) : _root_.Go.OpenSpec := { _root_.Go.OpenSpec.ofChange s with cond := some uptoSmall }

/-- 'hogsheadlaw06.BlockSplits', WHERE WHAT IT READS IS OF BULK AT MOST 1048576: true; the input reads as it did. -/
def blockSplitsUptoRow : OpenClaim := { program := "ytecleclpakiocaa", sum := "26ae719e249cbb06e9e1e89d9aca2c358a0b18be03c2cd0a05f8a645420959da", func := "hogshead/hogsheadlaw06.BlockSplits", spec := "blockSplits", inPlace := ["internal/abi.NoEscape", "internal/bytealg.MakeNoZero"], apart := false, narrowed := true }
def BlockSplitsUptoSaid : Prop := blockSplitsUptoRow.holds Try.pinned (OpenSpec.upto blockSplitsSpec)

/-- 'hogsheadlaw06.BlockBack', WHERE WHAT IT READS IS OF BULK AT MOST 1048576: true; the input reads as it did. -/
def blockBackUptoRow : OpenClaim := { program := "ytecleclpakiocaa", sum := "26ae719e249cbb06e9e1e89d9aca2c358a0b18be03c2cd0a05f8a645420959da", func := "hogshead/hogsheadlaw06.BlockBack", spec := "blockBack", inPlace := ["internal/abi.NoEscape", "internal/bytealg.MakeNoZero"], apart := false, narrowed := true }
def BlockBackUptoSaid : Prop := blockBackUptoRow.holds Try.pinned (OpenSpec.upto blockBackSpec)

/-- 'hogsheadlaw06.BlockLast', WHERE WHAT IT READS IS OF BULK AT MOST 1048576: true; the input reads as it did. -/
def blockLastUptoRow : OpenClaim := { program := "ytecleclpakiocaa", sum := "26ae719e249cbb06e9e1e89d9aca2c358a0b18be03c2cd0a05f8a645420959da", func := "hogshead/hogsheadlaw06.BlockLast", spec := "blockLast", inPlace := ["internal/abi.NoEscape", "internal/bytealg.MakeNoZero"], apart := false, narrowed := true }
def BlockLastUptoSaid : Prop := blockLastUptoRow.holds Try.pinned (OpenSpec.upto blockLastSpec)

/-- 'hogsheadlaw06.BlockCuts', WHERE WHAT IT READS IS OF BULK AT MOST 1048576: true; the input reads as it did. -/
def blockCutsUptoRow : OpenClaim := { program := "ytecleclpakiocaa", sum := "26ae719e249cbb06e9e1e89d9aca2c358a0b18be03c2cd0a05f8a645420959da", func := "hogshead/hogsheadlaw06.BlockCuts", spec := "blockCuts", inPlace := ["internal/abi.NoEscape", "internal/bytealg.MakeNoZero"], apart := false, narrowed := true }
def BlockCutsUptoSaid : Prop := blockCutsUptoRow.holds Try.pinned (OpenSpec.upto blockCutsSpec)

/-- 'hogsheadlaw06.BlockTwice', WHERE WHAT IT READS IS OF BULK AT MOST 1048576: true; the input reads as it did. -/
def blockTwiceUptoRow : OpenClaim := { program := "ytecleclpakiocaa", sum := "26ae719e249cbb06e9e1e89d9aca2c358a0b18be03c2cd0a05f8a645420959da", func := "hogshead/hogsheadlaw06.BlockTwice", spec := "blockTwice", inPlace := ["internal/abi.NoEscape", "internal/bytealg.MakeNoZero"], apart := false, narrowed := true }
def BlockTwiceUptoSaid : Prop := blockTwiceUptoRow.holds Try.pinned (OpenSpec.upto blockTwiceSpec)

/-- 'hogsheadlaw06.BlockSums', WHERE WHAT IT READS IS OF BULK AT MOST 1048576: true; the input reads as it did. -/
def blockSumsUptoRow : OpenClaim := { program := "ytecleclpakiocaa", sum := "26ae719e249cbb06e9e1e89d9aca2c358a0b18be03c2cd0a05f8a645420959da", func := "hogshead/hogsheadlaw06.BlockSums", spec := "blockSums", inPlace := ["internal/abi.NoEscape", "internal/bytealg.MakeNoZero"], apart := false, narrowed := true }
def BlockSumsUptoSaid : Prop := blockSumsUptoRow.holds Try.pinned (OpenSpec.upto blockSumsSpec)

/-- 'hogsheadlaw06.BlockLays', WHERE WHAT IT READS IS OF BULK AT MOST 1048576: true; the input reads as it did. -/
def blockLaysUptoRow : OpenClaim := { program := "ytecleclpakiocaa", sum := "26ae719e249cbb06e9e1e89d9aca2c358a0b18be03c2cd0a05f8a645420959da", func := "hogshead/hogsheadlaw06.BlockLays", spec := "blockLays", inPlace := ["internal/abi.NoEscape", "internal/bytealg.MakeNoZero"], apart := false, narrowed := true }
def BlockLaysUptoSaid : Prop := blockLaysUptoRow.holds Try.pinned (OpenSpec.upto blockLaysSpec)

end Rows
end Go.Proofs.Ytecleclpakiocaa
