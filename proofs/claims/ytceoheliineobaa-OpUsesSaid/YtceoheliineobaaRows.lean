/-
  No cell of these rows narrows 'for every input' (looked for: loops, veiled, ifaces, maps, wideKeys, modest, calm, conditions, laid).
  DERIVED. THE GIVEN ROWS OF THIS SEAT. 8 by the template 'for every input the law returns true; each argument reads behind the call as it read before'; 0 by the template 'total and deterministic' (their statements: YtceoheliineobaaTotals.lean).
  GIVEN WITH THE SEED: the statements are not yours to turn. If you find one false, say at which input.
  Laid BY PROGRAM, IN A SANDBOX (cutbox-rows.mjs): the forced cells as the released guide's own fill.sh prints them over the translation fa59ce6137579130… (all of the seat's roots in one cut). By AI agents, Wed Nov 11 2026. No macro, syntax, notation, axiom, sorry.
-/
import Derived.Test.YtceoheliineobaaChecked
import GoSem.Claim
import GoSem.ClaimJoined
import GoSem.ClaimMapViews
import Derived.JoinedTies
import Derived.KernelRfl
namespace Go.Proofs.Ytceoheliineobaa
/- THE CELL 'sum', in the pinned program and in every row, IS THE sha256 OF THE DUMP (.gsa) THAT YtceoheliineobaaProg.lean LOADS. Nothing in Lean hashes anything: it is a label: what it is worth is what the hold of that sum in a sandbox is worth. -/
noncomputable def Try.pinned : Pinned := { name := "ytceoheliineobaa", sum := "fa59ce6137579130070aa36661e06f20b60281faf44de0ec0bbb483b00bb7ff0", checked := Try.checked }
namespace Rows
def none {H : Type} : Left H := { results := [], args := [] }

/-- 'bonsailaw2.DescTells': WHATEVER THE INPUT: true; the input reads as it did. -/
def descTellsSpec : ChangeSpec := { name := "descTells", fn := fun _ => fun
  | [d1, d2, d3] => { results := [.lit (.bool true)], args := [d1, d2, d3] }
  | _ => none }
def descTellsRow : OpenClaim := { program := "ytceoheliineobaa", sum := "fa59ce6137579130070aa36661e06f20b60281faf44de0ec0bbb483b00bb7ff0", func := "bonsai/bonsailaw2.DescTells", spec := "descTells", inPlace := ["internal/bytealg.IndexByteString", "internal/bytealg.IndexString", "internal/abi.NoEscape"], named := ["internal/bytealg.MaxLen"], apart := false }
def DescTellsSaid : Prop := descTellsRow.holds Try.pinned (OpenSpec.ofChange descTellsSpec)

/-- ITS FALSE NEIGHBOUR: 'it returns false'. Refute it at one input. -/
def descTellsWrong : ChangeSpec := { name := "descTells", fn := fun _ => fun
  | [d1, d2, d3] => { results := [.lit (.bool false)], args := [d1, d2, d3] }
  | _ => none }
def DescTellsWrongFalsely : Prop := descTellsRow.holds Try.pinned (OpenSpec.ofChange descTellsWrong)

/-- 'bonsailaw2.DescWrites': WHATEVER THE INPUT: true; the input reads as it did. -/
def descWritesSpec : ChangeSpec := { name := "descWrites", fn := fun _ => fun
  | [d1, d2, d3] => { results := [.lit (.bool true)], args := [d1, d2, d3] }
  | _ => none }
def descWritesRow : OpenClaim := { program := "ytceoheliineobaa", sum := "fa59ce6137579130070aa36661e06f20b60281faf44de0ec0bbb483b00bb7ff0", func := "bonsai/bonsailaw2.DescWrites", spec := "descWrites", inPlace := ["internal/bytealg.IndexByteString", "internal/bytealg.IndexString", "internal/abi.NoEscape"], named := ["internal/bytealg.MaxLen"], apart := false }
def DescWritesSaid : Prop := descWritesRow.holds Try.pinned (OpenSpec.ofChange descWritesSpec)

/-- ITS FALSE NEIGHBOUR: 'it returns false'. Refute it at one input. -/
def descWritesWrong : ChangeSpec := { name := "descWrites", fn := fun _ => fun
  | [d1, d2, d3] => { results := [.lit (.bool false)], args := [d1, d2, d3] }
  | _ => none }
def DescWritesWrongFalsely : Prop := descWritesRow.holds Try.pinned (OpenSpec.ofChange descWritesWrong)

/-- 'bonsailaw2.DescNames': WHATEVER THE INPUT: true; the input reads as it did. -/
def descNamesSpec : ChangeSpec := { name := "descNames", fn := fun _ => fun
  | [d1, d2, d3] => { results := [.lit (.bool true)], args := [d1, d2, d3] }
  | _ => none }
def descNamesRow : OpenClaim := { program := "ytceoheliineobaa", sum := "fa59ce6137579130070aa36661e06f20b60281faf44de0ec0bbb483b00bb7ff0", func := "bonsai/bonsailaw2.DescNames", spec := "descNames", inPlace := ["internal/bytealg.IndexByteString", "internal/bytealg.IndexString", "internal/abi.NoEscape"], named := ["internal/bytealg.MaxLen"], apart := false }
def DescNamesSaid : Prop := descNamesRow.holds Try.pinned (OpenSpec.ofChange descNamesSpec)

/-- ITS FALSE NEIGHBOUR: 'it returns false'. Refute it at one input. -/
def descNamesWrong : ChangeSpec := { name := "descNames", fn := fun _ => fun
  | [d1, d2, d3] => { results := [.lit (.bool false)], args := [d1, d2, d3] }
  | _ => none }
def DescNamesWrongFalsely : Prop := descNamesRow.holds Try.pinned (OpenSpec.ofChange descNamesWrong)

/-- 'bonsailaw2.DescKeys': WHATEVER THE INPUT: true; the input reads as it did. -/
def descKeysSpec : ChangeSpec := { name := "descKeys", fn := fun _ => fun
  | [d1, d2, d3, d4, d5] => { results := [.lit (.bool true)], args := [d1, d2, d3, d4, d5] }
  | _ => none }
def descKeysRow : OpenClaim := { program := "ytceoheliineobaa", sum := "fa59ce6137579130070aa36661e06f20b60281faf44de0ec0bbb483b00bb7ff0", func := "bonsai/bonsailaw2.DescKeys", spec := "descKeys", inPlace := ["internal/bytealg.IndexByteString", "internal/bytealg.IndexString", "internal/abi.NoEscape"], named := ["internal/bytealg.MaxLen"], apart := false }
def DescKeysSaid : Prop := descKeysRow.holds Try.pinned (OpenSpec.ofChange descKeysSpec)

/-- ITS FALSE NEIGHBOUR: 'it returns false'. Refute it at one input. -/
def descKeysWrong : ChangeSpec := { name := "descKeys", fn := fun _ => fun
  | [d1, d2, d3, d4, d5] => { results := [.lit (.bool false)], args := [d1, d2, d3, d4, d5] }
  | _ => none }
def DescKeysWrongFalsely : Prop := descKeysRow.holds Try.pinned (OpenSpec.ofChange descKeysWrong)

/-- 'bonsailaw3.OpTells': WHATEVER THE INPUT: true; the input reads as it did. -/
def opTellsSpec : ChangeSpec := { name := "opTells", fn := fun _ => fun
  | [d1, d2] => { results := [.lit (.bool true)], args := [d1, d2] }
  | _ => none }
def opTellsRow : OpenClaim := { program := "ytceoheliineobaa", sum := "fa59ce6137579130070aa36661e06f20b60281faf44de0ec0bbb483b00bb7ff0", func := "bonsai/bonsailaw3.OpTells", spec := "opTells", inPlace := ["internal/bytealg.IndexByteString", "internal/bytealg.IndexString"], named := ["internal/bytealg.MaxLen"], apart := false }
def OpTellsSaid : Prop := opTellsRow.holds Try.pinned (OpenSpec.ofChange opTellsSpec)

/-- ITS FALSE NEIGHBOUR: 'it returns false'. Refute it at one input. -/
def opTellsWrong : ChangeSpec := { name := "opTells", fn := fun _ => fun
  | [d1, d2] => { results := [.lit (.bool false)], args := [d1, d2] }
  | _ => none }
def OpTellsWrongFalsely : Prop := opTellsRow.holds Try.pinned (OpenSpec.ofChange opTellsWrong)

/-- 'bonsailaw3.OpRight': WHATEVER THE INPUT: true; the input reads as it did. -/
def opRightSpec : ChangeSpec := { name := "opRight", fn := fun _ => fun
  | [d1, d2, d3, d4, d5, d6, d7, d8, d9] => { results := [.lit (.bool true)], args := [d1, d2, d3, d4, d5, d6, d7, d8, d9] }
  | _ => none }
def opRightRow : OpenClaim := { program := "ytceoheliineobaa", sum := "fa59ce6137579130070aa36661e06f20b60281faf44de0ec0bbb483b00bb7ff0", func := "bonsai/bonsailaw3.OpRight", spec := "opRight", inPlace := ["internal/bytealg.IndexByteString", "internal/bytealg.IndexString"], named := ["internal/bytealg.MaxLen"], apart := false }
def OpRightSaid : Prop := opRightRow.holds Try.pinned (OpenSpec.ofChange opRightSpec)

/-- ITS FALSE NEIGHBOUR: 'it returns false'. Refute it at one input. -/
def opRightWrong : ChangeSpec := { name := "opRight", fn := fun _ => fun
  | [d1, d2, d3, d4, d5, d6, d7, d8, d9] => { results := [.lit (.bool false)], args := [d1, d2, d3, d4, d5, d6, d7, d8, d9] }
  | _ => none }
def OpRightWrongFalsely : Prop := opRightRow.holds Try.pinned (OpenSpec.ofChange opRightWrong)

/-- 'bonsailaw3.OpNames': WHATEVER THE INPUT: true; the input reads as it did. -/
def opNamesSpec : ChangeSpec := { name := "opNames", fn := fun _ => fun
  | [d1, d2] => { results := [.lit (.bool true)], args := [d1, d2] }
  | _ => none }
def opNamesRow : OpenClaim := { program := "ytceoheliineobaa", sum := "fa59ce6137579130070aa36661e06f20b60281faf44de0ec0bbb483b00bb7ff0", func := "bonsai/bonsailaw3.OpNames", spec := "opNames", inPlace := ["internal/bytealg.IndexByteString", "internal/bytealg.IndexString"], named := ["internal/bytealg.MaxLen"], apart := false }
def OpNamesSaid : Prop := opNamesRow.holds Try.pinned (OpenSpec.ofChange opNamesSpec)

/-- ITS FALSE NEIGHBOUR: 'it returns false'. Refute it at one input. -/
def opNamesWrong : ChangeSpec := { name := "opNames", fn := fun _ => fun
  | [d1, d2] => { results := [.lit (.bool false)], args := [d1, d2] }
  | _ => none }
def OpNamesWrongFalsely : Prop := opNamesRow.holds Try.pinned (OpenSpec.ofChange opNamesWrong)

/-- 'bonsailaw3.OpUses': WHATEVER THE INPUT: true; the input reads as it did. -/
def opUsesSpec : ChangeSpec := { name := "opUses", fn := fun _ => fun
  | [d1, d2, d3, d4] => { results := [.lit (.bool true)], args := [d1, d2, d3, d4] }
  | _ => none }
def opUsesRow : OpenClaim := { program := "ytceoheliineobaa", sum := "fa59ce6137579130070aa36661e06f20b60281faf44de0ec0bbb483b00bb7ff0", func := "bonsai/bonsailaw3.OpUses", spec := "opUses", inPlace := ["internal/bytealg.IndexByteString", "internal/bytealg.IndexString"], named := ["internal/bytealg.MaxLen"], apart := false }
def OpUsesSaid : Prop := opUsesRow.holds Try.pinned (OpenSpec.ofChange opUsesSpec)

/-- ITS FALSE NEIGHBOUR: 'it returns false'. Refute it at one input. -/
def opUsesWrong : ChangeSpec := { name := "opUses", fn := fun _ => fun
  | [d1, d2, d3, d4] => { results := [.lit (.bool false)], args := [d1, d2, d3, d4] }
  | _ => none }
def OpUsesWrongFalsely : Prop := opUsesRow.holds Try.pinned (OpenSpec.ofChange opUsesWrong)

/- THE SECOND FORM. 'bulk': how many values and letters a reading holds, each counted each time it is reached (what is shared counts as often as it is met; a slice's spare places count too). A statement '..UptoSaid' is the law's where the arguments, and the package variables that the reading takes, are together of bulk at most 1048576: NARROWER than '..Said'. Prove '..Said' where nothing that the law and all that it calls make is longer than what came in: it says more and counts as full. Else prove '..UptoSaid'. A law counts once. -/
mutual
def uptoBulk {H : Type} : DataW H → Nat
  | .lit (.string bytes) => bytes.length + 1
  | .lit _ => 1
  | .nil => 1
  | .ptr d => uptoBulk d + 1
  | .slice elems spare => uptoBulkAll elems + uptoBulkAll spare + 1
  | .agg parts => uptoBulkAll parts + 1
  | .iface _ d => uptoBulk d + 1
  | .map entries => uptoBulkEntries entries + 1
  | .held _ => 1
def uptoBulkAll {H : Type} : List (DataW H) → Nat
  | [] => 0
  | d :: r => uptoBulk d + uptoBulkAll r
def uptoBulkEntries {H : Type} : List (Lit × DataW H) → Nat
  | [] => 0
  | x :: r => uptoBulkEntry x + uptoBulkEntries r
def uptoBulkEntry {H : Type} : Lit × DataW H → Nat
  | (.string bytes, d) => bytes.length + uptoBulk d + 1
  | (_, d) => uptoBulk d + 1
 end
def uptoSmall : (H : Type) → List (DataW H) → Bool := fun _ ds => decide (uptoBulkAll ds ≤ 1048576)
def OpenSpec.upto (s : _root_.Go.ChangeSpec) : _root_.Go.OpenSpec := { _root_.Go.OpenSpec.ofChange s with cond := some uptoSmall }

/-- 'bonsailaw2.DescTells', WHERE WHAT IT READS IS OF BULK AT MOST 1048576: true; the input reads as it did. -/
def descTellsUptoRow : OpenClaim := { program := "ytceoheliineobaa", sum := "fa59ce6137579130070aa36661e06f20b60281faf44de0ec0bbb483b00bb7ff0", func := "bonsai/bonsailaw2.DescTells", spec := "descTells", inPlace := ["internal/bytealg.IndexByteString", "internal/bytealg.IndexString", "internal/abi.NoEscape"], named := ["internal/bytealg.MaxLen"], apart := false, narrowed := true }
def DescTellsUptoSaid : Prop := descTellsUptoRow.holds Try.pinned (OpenSpec.upto descTellsSpec)

/-- 'bonsailaw2.DescWrites', WHERE WHAT IT READS IS OF BULK AT MOST 1048576: true; the input reads as it did. -/
def descWritesUptoRow : OpenClaim := { program := "ytceoheliineobaa", sum := "fa59ce6137579130070aa36661e06f20b60281faf44de0ec0bbb483b00bb7ff0", func := "bonsai/bonsailaw2.DescWrites", spec := "descWrites", inPlace := ["internal/bytealg.IndexByteString", "internal/bytealg.IndexString", "internal/abi.NoEscape"], named := ["internal/bytealg.MaxLen"], apart := false, narrowed := true }
def DescWritesUptoSaid : Prop := descWritesUptoRow.holds Try.pinned (OpenSpec.upto descWritesSpec)

/-- 'bonsailaw2.DescNames', WHERE WHAT IT READS IS OF BULK AT MOST 1048576: true; the input reads as it did. -/
def descNamesUptoRow : OpenClaim := { program := "ytceoheliineobaa", sum := "fa59ce6137579130070aa36661e06f20b60281faf44de0ec0bbb483b00bb7ff0", func := "bonsai/bonsailaw2.DescNames", spec := "descNames", inPlace := ["internal/bytealg.IndexByteString", "internal/bytealg.IndexString", "internal/abi.NoEscape"], named := ["internal/bytealg.MaxLen"], apart := false, narrowed := true }
def DescNamesUptoSaid : Prop := descNamesUptoRow.holds Try.pinned (OpenSpec.upto descNamesSpec)

/-- 'bonsailaw2.DescKeys', WHERE WHAT IT READS IS OF BULK AT MOST 1048576: true; the input reads as it did. -/
def descKeysUptoRow : OpenClaim := { program := "ytceoheliineobaa", sum := "fa59ce6137579130070aa36661e06f20b60281faf44de0ec0bbb483b00bb7ff0", func := "bonsai/bonsailaw2.DescKeys", spec := "descKeys", inPlace := ["internal/bytealg.IndexByteString", "internal/bytealg.IndexString", "internal/abi.NoEscape"], named := ["internal/bytealg.MaxLen"], apart := false, narrowed := true }
def DescKeysUptoSaid : Prop := descKeysUptoRow.holds Try.pinned (OpenSpec.upto descKeysSpec)

/-- 'bonsailaw3.OpTells', WHERE WHAT IT READS IS OF BULK AT MOST 1048576: true; the input reads as it did. -/
def opTellsUptoRow : OpenClaim := { program := "ytceoheliineobaa", sum := "fa59ce6137579130070aa36661e06f20b60281faf44de0ec0bbb483b00bb7ff0", func := "bonsai/bonsailaw3.OpTells", spec := "opTells", inPlace := ["internal/bytealg.IndexByteString", "internal/bytealg.IndexString"], named := ["internal/bytealg.MaxLen"], apart := false, narrowed := true }
def OpTellsUptoSaid : Prop := opTellsUptoRow.holds Try.pinned (OpenSpec.upto opTellsSpec)

/-- 'bonsailaw3.OpRight', WHERE WHAT IT READS IS OF BULK AT MOST 1048576: true; the input reads as it did. -/
def opRightUptoRow : OpenClaim := { program := "ytceoheliineobaa", sum := "fa59ce6137579130070aa36661e06f20b60281faf44de0ec0bbb483b00bb7ff0", func := "bonsai/bonsailaw3.OpRight", spec := "opRight", inPlace := ["internal/bytealg.IndexByteString", "internal/bytealg.IndexString"], named := ["internal/bytealg.MaxLen"], apart := false, narrowed := true }
def OpRightUptoSaid : Prop := opRightUptoRow.holds Try.pinned (OpenSpec.upto opRightSpec)

/-- 'bonsailaw3.OpNames', WHERE WHAT IT READS IS OF BULK AT MOST 1048576: true; the input reads as it did. -/
def opNamesUptoRow : OpenClaim := { program := "ytceoheliineobaa", sum := "fa59ce6137579130070aa36661e06f20b60281faf44de0ec0bbb483b00bb7ff0", func := "bonsai/bonsailaw3.OpNames", spec := "opNames", inPlace := ["internal/bytealg.IndexByteString", "internal/bytealg.IndexString"], named := ["internal/bytealg.MaxLen"], apart := false, narrowed := true }
def OpNamesUptoSaid : Prop := opNamesUptoRow.holds Try.pinned (OpenSpec.upto opNamesSpec)

/-- 'bonsailaw3.OpUses', WHERE WHAT IT READS IS OF BULK AT MOST 1048576: true; the input reads as it did. -/
def opUsesUptoRow : OpenClaim := { program := "ytceoheliineobaa", sum := "fa59ce6137579130070aa36661e06f20b60281faf44de0ec0bbb483b00bb7ff0", func := "bonsai/bonsailaw3.OpUses", spec := "opUses", inPlace := ["internal/bytealg.IndexByteString", "internal/bytealg.IndexString"], named := ["internal/bytealg.MaxLen"], apart := false, narrowed := true }
def OpUsesUptoSaid : Prop := opUsesUptoRow.holds Try.pinned (OpenSpec.upto opUsesSpec)

end Rows
end Go.Proofs.Ytceoheliineobaa
