/-
  No cell of these rows narrows 'for every input' (looked for: loops, veiled, ifaces, maps, wideKeys, modest, calm, conditions, laid).
  DERIVED. THE GIVEN ROWS OF THIS SEAT. 5 by the template 'for every input the law returns true; each argument reads behind the call as it read before'; 0 by the template 'total and deterministic' (their statements: YtflgoabdgibphaaTotals.lean).
  GIVEN WITH THE SEED: the statements are not yours to turn. If you find one false, say at which input.
  Laid BY PROGRAM, IN A SANDBOX (cutbox-rows.mjs): the forced cells as the released guide's own fill.sh prints them over the translation 33e9bee305b28bf1… (all of the seat's roots in one cut). By AI agents, Wed Nov 11 2026. No macro, syntax, notation, axiom, sorry.
-/
import Derived.Test.YtflgoabdgibphaaChecked
import GoSem.Claim
import GoSem.ClaimJoined
import GoSem.ClaimMapViews
import Derived.JoinedTies
import Derived.KernelRfl
namespace Go.Proofs.Ytflgoabdgibphaa
/- THE CELL 'sum', in the pinned program and in every row, IS THE sha256 OF THE DUMP (.gsa) THAT YtflgoabdgibphaaProg.lean LOADS. Nothing in Lean hashes anything: it is a label: what it is worth is what the hold of that sum in a sandbox is worth. -/
noncomputable def Try.pinned : Pinned := { name := "ytflgoabdgibphaa", sum := "33e9bee305b28bf1ef3fafae81d491de502ea04b075df48815347bfd1287ed10", checked := Try.checked }
namespace Rows
def none {H : Type} : Left H := { results := [], args := [] }

/-- 'hogsheadlaw13.AcceptKeeps': WHATEVER THE INPUT: true; the input reads as it did. -/
def acceptKeepsSpec : ChangeSpec := { name := "acceptKeeps", fn := fun _ => fun
  | [d] => { results := [.lit (.bool true)], args := [d] }
  | _ => none }
def acceptKeepsRow : OpenClaim := { program := "ytflgoabdgibphaa", sum := "33e9bee305b28bf1ef3fafae81d491de502ea04b075df48815347bfd1287ed10", func := "hogshead/hogsheadlaw13.AcceptKeeps", spec := "acceptKeeps", inPlace := ["slices.overlaps[hogshead/api.Vote]"], unfollowed := true, recurses := true, apart := false }
def AcceptKeepsSaid : Prop := acceptKeepsRow.holds Try.pinned (OpenSpec.ofChange acceptKeepsSpec)

/-- ITS FALSE NEIGHBOUR: 'it returns false'. Refute it at one input. -/
def acceptKeepsWrong : ChangeSpec := { name := "acceptKeeps", fn := fun _ => fun
  | [d] => { results := [.lit (.bool false)], args := [d] }
  | _ => none }
def AcceptKeepsWrongFalsely : Prop := acceptKeepsRow.holds Try.pinned (OpenSpec.ofChange acceptKeepsWrong)

/-- 'hogsheadlaw13.AcceptHolds': WHATEVER THE INPUT: true; the input reads as it did. -/
def acceptHoldsSpec : ChangeSpec := { name := "acceptHolds", fn := fun _ => fun
  | [d] => { results := [.lit (.bool true)], args := [d] }
  | _ => none }
def acceptHoldsRow : OpenClaim := { program := "ytflgoabdgibphaa", sum := "33e9bee305b28bf1ef3fafae81d491de502ea04b075df48815347bfd1287ed10", func := "hogshead/hogsheadlaw13.AcceptHolds", spec := "acceptHolds", inPlace := ["slices.overlaps[hogshead/api.Vote]"], unfollowed := true, recurses := true, apart := false }
def AcceptHoldsSaid : Prop := acceptHoldsRow.holds Try.pinned (OpenSpec.ofChange acceptHoldsSpec)

/-- ITS FALSE NEIGHBOUR: 'it returns false'. Refute it at one input. -/
def acceptHoldsWrong : ChangeSpec := { name := "acceptHolds", fn := fun _ => fun
  | [d] => { results := [.lit (.bool false)], args := [d] }
  | _ => none }
def AcceptHoldsWrongFalsely : Prop := acceptHoldsRow.holds Try.pinned (OpenSpec.ofChange acceptHoldsWrong)

/-- 'hogsheadlaw13.AcceptActs': WHATEVER THE INPUT: true; the input reads as it did. -/
def acceptActsSpec : ChangeSpec := { name := "acceptActs", fn := fun _ => fun
  | [d] => { results := [.lit (.bool true)], args := [d] }
  | _ => none }
def acceptActsRow : OpenClaim := { program := "ytflgoabdgibphaa", sum := "33e9bee305b28bf1ef3fafae81d491de502ea04b075df48815347bfd1287ed10", func := "hogshead/hogsheadlaw13.AcceptActs", spec := "acceptActs", inPlace := ["slices.overlaps[hogshead/api.Vote]"], unfollowed := true, recurses := true, apart := false }
def AcceptActsSaid : Prop := acceptActsRow.holds Try.pinned (OpenSpec.ofChange acceptActsSpec)

/-- ITS FALSE NEIGHBOUR: 'it returns false'. Refute it at one input. -/
def acceptActsWrong : ChangeSpec := { name := "acceptActs", fn := fun _ => fun
  | [d] => { results := [.lit (.bool false)], args := [d] }
  | _ => none }
def AcceptActsWrongFalsely : Prop := acceptActsRow.holds Try.pinned (OpenSpec.ofChange acceptActsWrong)

/-- 'hogsheadlaw13.AcceptBytes': WHATEVER THE INPUT: true; the input reads as it did. -/
def acceptBytesSpec : ChangeSpec := { name := "acceptBytes", fn := fun _ => fun
  | [d1, d2] => { results := [.lit (.bool true)], args := [d1, d2] }
  | _ => none }
def acceptBytesRow : OpenClaim := { program := "ytflgoabdgibphaa", sum := "33e9bee305b28bf1ef3fafae81d491de502ea04b075df48815347bfd1287ed10", func := "hogshead/hogsheadlaw13.AcceptBytes", spec := "acceptBytes", inPlace := ["slices.overlaps[hogshead/api.Vote]", "internal/abi.NoEscape"], unfollowed := true, recurses := true, apart := false }
def AcceptBytesSaid : Prop := acceptBytesRow.holds Try.pinned (OpenSpec.ofChange acceptBytesSpec)

/-- ITS FALSE NEIGHBOUR: 'it returns false'. Refute it at one input. -/
def acceptBytesWrong : ChangeSpec := { name := "acceptBytes", fn := fun _ => fun
  | [d1, d2] => { results := [.lit (.bool false)], args := [d1, d2] }
  | _ => none }
def AcceptBytesWrongFalsely : Prop := acceptBytesRow.holds Try.pinned (OpenSpec.ofChange acceptBytesWrong)

/-- 'hogsheadlaw13.AcceptBack': WHATEVER THE INPUT: true; the input reads as it did. -/
def acceptBackSpec : ChangeSpec := { name := "acceptBack", fn := fun _ => fun
  | [d1, d2] => { results := [.lit (.bool true)], args := [d1, d2] }
  | _ => none }
def acceptBackRow : OpenClaim := { program := "ytflgoabdgibphaa", sum := "33e9bee305b28bf1ef3fafae81d491de502ea04b075df48815347bfd1287ed10", func := "hogshead/hogsheadlaw13.AcceptBack", spec := "acceptBack", inPlace := ["slices.overlaps[hogshead/api.Vote]", "internal/abi.NoEscape"], unfollowed := true, recurses := true, apart := false }
def AcceptBackSaid : Prop := acceptBackRow.holds Try.pinned (OpenSpec.ofChange acceptBackSpec)

/-- ITS FALSE NEIGHBOUR: 'it returns false'. Refute it at one input. -/
def acceptBackWrong : ChangeSpec := { name := "acceptBack", fn := fun _ => fun
  | [d1, d2] => { results := [.lit (.bool false)], args := [d1, d2] }
  | _ => none }
def AcceptBackWrongFalsely : Prop := acceptBackRow.holds Try.pinned (OpenSpec.ofChange acceptBackWrong)

/- THE SECOND FORM. 'bulk': how many values and letters a reading holds, each counted each time it is reached (what is shared counts as often as it is met; a slice's spare places count too). A statement '..UptoSaid' is the law's where the arguments, and the package variables that the reading takes, are together of bulk at most 1048576: NARROWER than '..Said'. Prove '..Said' where nothing that the law and all that it calls make is longer than what came in: it says more and counts as full. Else prove '..UptoSaid'. A law counts once. -/
mutual
def uptoBulk {H : Type} : DataW H → Nat
  | .lit (.string bytes) => bytes.length + 1
  | .lit _ => 1
  | .nil => 1
  | .ptr d => uptoBulk d + 1
  | .slice elems spare => uptoBulkAll elems + uptoBulkAll spare + 1
  | .agg parts => uptoBulkAll parts + 1
  | .iface _ d => uptoBulk d + 1
  | .map entries => uptoBulkEntries entries + 1
  | .held _ => 1
def uptoBulkAll {H : Type} : List (DataW H) → Nat
  | [] => 0
  | d :: r => uptoBulk d + uptoBulkAll r
def uptoBulkEntries {H : Type} : List (Lit × DataW H) → Nat
  | [] => 0
  | x :: r => uptoBulkEntry x + uptoBulkEntries r
def uptoBulkEntry {H : Type} : Lit × DataW H → Nat
  | (.string bytes, d) => bytes.length + uptoBulk d + 1
  | (_, d) => uptoBulk d + 1
 end
def uptoSmall : (H : Type) → List (DataW H) → Bool := fun _ ds => decide (uptoBulkAll ds ≤ 1048576)
def OpenSpec.upto (s : _root_.Go.ChangeSpec) : _root_.Go.OpenSpec := { _root_.Go.OpenSpec.ofChange s with cond := some uptoSmall }

/-- 'hogsheadlaw13.AcceptKeeps', WHERE WHAT IT READS IS OF BULK AT MOST 1048576: true; the input reads as it did. -/
def acceptKeepsUptoRow : OpenClaim := { program := "ytflgoabdgibphaa", sum := "33e9bee305b28bf1ef3fafae81d491de502ea04b075df48815347bfd1287ed10", func := "hogshead/hogsheadlaw13.AcceptKeeps", spec := "acceptKeeps", inPlace := ["slices.overlaps[hogshead/api.Vote]"], unfollowed := true, recurses := true, apart := false, narrowed := true }
def AcceptKeepsUptoSaid : Prop := acceptKeepsUptoRow.holds Try.pinned (OpenSpec.upto acceptKeepsSpec)

/-- 'hogsheadlaw13.AcceptHolds', WHERE WHAT IT READS IS OF BULK AT MOST 1048576: true; the input reads as it did. -/
def acceptHoldsUptoRow : OpenClaim := { program := "ytflgoabdgibphaa", sum := "33e9bee305b28bf1ef3fafae81d491de502ea04b075df48815347bfd1287ed10", func := "hogshead/hogsheadlaw13.AcceptHolds", spec := "acceptHolds", inPlace := ["slices.overlaps[hogshead/api.Vote]"], unfollowed := true, recurses := true, apart := false, narrowed := true }
def AcceptHoldsUptoSaid : Prop := acceptHoldsUptoRow.holds Try.pinned (OpenSpec.upto acceptHoldsSpec)

/-- 'hogsheadlaw13.AcceptActs', WHERE WHAT IT READS IS OF BULK AT MOST 1048576: true; the input reads as it did. -/
def acceptActsUptoRow : OpenClaim := { program := "ytflgoabdgibphaa", sum := "33e9bee305b28bf1ef3fafae81d491de502ea04b075df48815347bfd1287ed10", func := "hogshead/hogsheadlaw13.AcceptActs", spec := "acceptActs", inPlace := ["slices.overlaps[hogshead/api.Vote]"], unfollowed := true, recurses := true, apart := false, narrowed := true }
def AcceptActsUptoSaid : Prop := acceptActsUptoRow.holds Try.pinned (OpenSpec.upto acceptActsSpec)

/-- 'hogsheadlaw13.AcceptBytes', WHERE WHAT IT READS IS OF BULK AT MOST 1048576: true; the input reads as it did. -/
def acceptBytesUptoRow : OpenClaim := { program := "ytflgoabdgibphaa", sum := "33e9bee305b28bf1ef3fafae81d491de502ea04b075df48815347bfd1287ed10", func := "hogshead/hogsheadlaw13.AcceptBytes", spec := "acceptBytes", inPlace := ["slices.overlaps[hogshead/api.Vote]", "internal/abi.NoEscape"], unfollowed := true, recurses := true, apart := false, narrowed := true }
def AcceptBytesUptoSaid : Prop := acceptBytesUptoRow.holds Try.pinned (OpenSpec.upto acceptBytesSpec)

/-- 'hogsheadlaw13.AcceptBack', WHERE WHAT IT READS IS OF BULK AT MOST 1048576: true; the input reads as it did. -/
def acceptBackUptoRow : OpenClaim := { program := "ytflgoabdgibphaa", sum := "33e9bee305b28bf1ef3fafae81d491de502ea04b075df48815347bfd1287ed10", func := "hogshead/hogsheadlaw13.AcceptBack", spec := "acceptBack", inPlace := ["slices.overlaps[hogshead/api.Vote]", "internal/abi.NoEscape"], unfollowed := true, recurses := true, apart := false, narrowed := true }
def AcceptBackUptoSaid : Prop := acceptBackUptoRow.holds Try.pinned (OpenSpec.upto acceptBackSpec)

end Rows
end Go.Proofs.Ytflgoabdgibphaa
