/-
  No cell of these rows narrows 'for every input' (looked for: loops, veiled, ifaces, maps, wideKeys, modest, calm, conditions, laid).
  DERIVED. THE GIVEN ROWS OF THIS SEAT. 7 by the template 'for every input the law returns true; each argument reads behind the call as it read before'; 0 by the template 'total and deterministic' (their statements: YthifbkjkiijkoaaTotals.lean).
  GIVEN WITH THE SEED: the statements are not yours to turn. If you find one false, say at which input.
  Laid BY PROGRAM, IN A SANDBOX (cutbox-rows.mjs): the forced cells as the released guide's own fill.sh prints them over the translation 023cf99d4d19f20c… (all of the seat's roots in one cut). By AI agents, Wed Nov 11 2026. No macro, syntax, notation, axiom, sorry.
-/
import Derived.Test.YthifbkjkiijkoaaChecked
import GoSem.Claim
import GoSem.ClaimJoined
import GoSem.ClaimMapViews
import Derived.JoinedTies
import Derived.KernelRfl
namespace Go.Proofs.Ythifbkjkiijkoaa
/- THE CELL 'sum', in the pinned program and in every row, IS THE sha256 OF THE DUMP (.gsa) THAT YthifbkjkiijkoaaProg.lean LOADS. Nothing in Lean hashes anything: it is a label: what it is worth is what the hold of that sum in a sandbox is worth. -/
noncomputable def Try.pinned : Pinned := { name := "ythifbkjkiijkoaa", sum := "023cf99d4d19f20cb85d88d6520d0c55d1f698d898d5f46f064da2757f543b90", checked := Try.checked }
namespace Rows
def none {H : Type} : Left H := { results := [], args := [] }

/-- 'bonsailaw8.TreeOrder': WHATEVER THE INPUT: true; the input reads as it did. -/
def treeOrderSpec : ChangeSpec := { name := "treeOrder", fn := fun _ => fun
  | [d1, d2, d3, d4] => { results := [.lit (.bool true)], args := [d1, d2, d3, d4] }
  | _ => none }
def treeOrderRow : OpenClaim := { program := "ythifbkjkiijkoaa", sum := "023cf99d4d19f20cb85d88d6520d0c55d1f698d898d5f46f064da2757f543b90", func := "bonsai/bonsailaw8.TreeOrder", spec := "treeOrder", recurses := true, apart := false }
def TreeOrderSaid : Prop := treeOrderRow.holds Try.pinned (OpenSpec.ofChange treeOrderSpec)

/-- ITS FALSE NEIGHBOUR: 'it returns false'. Refute it at one input. -/
def treeOrderWrong : ChangeSpec := { name := "treeOrder", fn := fun _ => fun
  | [d1, d2, d3, d4] => { results := [.lit (.bool false)], args := [d1, d2, d3, d4] }
  | _ => none }
def TreeOrderWrongFalsely : Prop := treeOrderRow.holds Try.pinned (OpenSpec.ofChange treeOrderWrong)

/-- 'bonsailaw11.LatticeTells': WHATEVER THE INPUT: true; the input reads as it did. -/
def latticeTellsSpec : ChangeSpec := { name := "latticeTells", fn := fun _ => fun
  | [d1, d2, d3, d4, d5, d6, d7, d8] => { results := [.lit (.bool true)], args := [d1, d2, d3, d4, d5, d6, d7, d8] }
  | _ => none }
def latticeTellsRow : OpenClaim := { program := "ythifbkjkiijkoaa", sum := "023cf99d4d19f20cb85d88d6520d0c55d1f698d898d5f46f064da2757f543b90", func := "bonsai/bonsailaw11.LatticeTells", spec := "latticeTells", recurses := true, apart := false }
def LatticeTellsSaid : Prop := latticeTellsRow.holds Try.pinned (OpenSpec.ofChange latticeTellsSpec)

/-- ITS FALSE NEIGHBOUR: 'it returns false'. Refute it at one input. -/
def latticeTellsWrong : ChangeSpec := { name := "latticeTells", fn := fun _ => fun
  | [d1, d2, d3, d4, d5, d6, d7, d8] => { results := [.lit (.bool false)], args := [d1, d2, d3, d4, d5, d6, d7, d8] }
  | _ => none }
def LatticeTellsWrongFalsely : Prop := latticeTellsRow.holds Try.pinned (OpenSpec.ofChange latticeTellsWrong)

/-- 'bonsailaw11.LatticeJoins': WHATEVER THE INPUT: true; the input reads as it did. -/
def latticeJoinsSpec : ChangeSpec := { name := "latticeJoins", fn := fun _ => fun
  | [d1, d2, d3, d4, d5] => { results := [.lit (.bool true)], args := [d1, d2, d3, d4, d5] }
  | _ => none }
def latticeJoinsRow : OpenClaim := { program := "ythifbkjkiijkoaa", sum := "023cf99d4d19f20cb85d88d6520d0c55d1f698d898d5f46f064da2757f543b90", func := "bonsai/bonsailaw11.LatticeJoins", spec := "latticeJoins", recurses := true, apart := false }
def LatticeJoinsSaid : Prop := latticeJoinsRow.holds Try.pinned (OpenSpec.ofChange latticeJoinsSpec)

/-- ITS FALSE NEIGHBOUR: 'it returns false'. Refute it at one input. -/
def latticeJoinsWrong : ChangeSpec := { name := "latticeJoins", fn := fun _ => fun
  | [d1, d2, d3, d4, d5] => { results := [.lit (.bool false)], args := [d1, d2, d3, d4, d5] }
  | _ => none }
def LatticeJoinsWrongFalsely : Prop := latticeJoinsRow.holds Try.pinned (OpenSpec.ofChange latticeJoinsWrong)

/-- 'bonsailaw11.LatticeNulls': WHATEVER THE INPUT: true; the input reads as it did. -/
def latticeNullsSpec : ChangeSpec := { name := "latticeNulls", fn := fun _ => fun
  | [d1, d2] => { results := [.lit (.bool true)], args := [d1, d2] }
  | _ => none }
def latticeNullsRow : OpenClaim := { program := "ythifbkjkiijkoaa", sum := "023cf99d4d19f20cb85d88d6520d0c55d1f698d898d5f46f064da2757f543b90", func := "bonsai/bonsailaw11.LatticeNulls", spec := "latticeNulls", recurses := true, apart := false }
def LatticeNullsSaid : Prop := latticeNullsRow.holds Try.pinned (OpenSpec.ofChange latticeNullsSpec)

/-- ITS FALSE NEIGHBOUR: 'it returns false'. Refute it at one input. -/
def latticeNullsWrong : ChangeSpec := { name := "latticeNulls", fn := fun _ => fun
  | [d1, d2] => { results := [.lit (.bool false)], args := [d1, d2] }
  | _ => none }
def LatticeNullsWrongFalsely : Prop := latticeNullsRow.holds Try.pinned (OpenSpec.ofChange latticeNullsWrong)

/-- 'bonsailaw11.LatticeLists': WHATEVER THE INPUT: true; the input reads as it did. -/
def latticeListsSpec : ChangeSpec := { name := "latticeLists", fn := fun _ => fun
  | [d1, d2, d3, d4] => { results := [.lit (.bool true)], args := [d1, d2, d3, d4] }
  | _ => none }
def latticeListsRow : OpenClaim := { program := "ythifbkjkiijkoaa", sum := "023cf99d4d19f20cb85d88d6520d0c55d1f698d898d5f46f064da2757f543b90", func := "bonsai/bonsailaw11.LatticeLists", spec := "latticeLists", recurses := true, apart := false }
def LatticeListsSaid : Prop := latticeListsRow.holds Try.pinned (OpenSpec.ofChange latticeListsSpec)

/-- ITS FALSE NEIGHBOUR: 'it returns false'. Refute it at one input. -/
def latticeListsWrong : ChangeSpec := { name := "latticeLists", fn := fun _ => fun
  | [d1, d2, d3, d4] => { results := [.lit (.bool false)], args := [d1, d2, d3, d4] }
  | _ => none }
def LatticeListsWrongFalsely : Prop := latticeListsRow.holds Try.pinned (OpenSpec.ofChange latticeListsWrong)

/-- 'bonsailaw11.LatticeFits': WHATEVER THE INPUT: true; the input reads as it did. -/
def latticeFitsSpec : ChangeSpec := { name := "latticeFits", fn := fun _ => fun
  | [d1, d2, d3, d4] => { results := [.lit (.bool true)], args := [d1, d2, d3, d4] }
  | _ => none }
def latticeFitsRow : OpenClaim := { program := "ythifbkjkiijkoaa", sum := "023cf99d4d19f20cb85d88d6520d0c55d1f698d898d5f46f064da2757f543b90", func := "bonsai/bonsailaw11.LatticeFits", spec := "latticeFits", recurses := true, apart := false }
def LatticeFitsSaid : Prop := latticeFitsRow.holds Try.pinned (OpenSpec.ofChange latticeFitsSpec)

/-- ITS FALSE NEIGHBOUR: 'it returns false'. Refute it at one input. -/
def latticeFitsWrong : ChangeSpec := { name := "latticeFits", fn := fun _ => fun
  | [d1, d2, d3, d4] => { results := [.lit (.bool false)], args := [d1, d2, d3, d4] }
  | _ => none }
def LatticeFitsWrongFalsely : Prop := latticeFitsRow.holds Try.pinned (OpenSpec.ofChange latticeFitsWrong)

/-- 'bonsailaw9.MemberNearest': WHATEVER THE INPUT: true; the input reads as it did. -/
def memberNearestSpec : ChangeSpec := { name := "memberNearest", fn := fun _ => fun
  | [d1, d2] => { results := [.lit (.bool true)], args := [d1, d2] }
  | _ => none }
def memberNearestRow : OpenClaim := { program := "ythifbkjkiijkoaa", sum := "023cf99d4d19f20cb85d88d6520d0c55d1f698d898d5f46f064da2757f543b90", func := "bonsai/bonsailaw9.MemberNearest", spec := "memberNearest", inPlace := ["internal/abi.NoEscape"], unfollowed := true, recurses := true, apart := false }
def MemberNearestSaid : Prop := memberNearestRow.holds Try.pinned (OpenSpec.ofChange memberNearestSpec)

/-- ITS FALSE NEIGHBOUR: 'it returns false'. Refute it at one input. -/
def memberNearestWrong : ChangeSpec := { name := "memberNearest", fn := fun _ => fun
  | [d1, d2] => { results := [.lit (.bool false)], args := [d1, d2] }
  | _ => none }
def MemberNearestWrongFalsely : Prop := memberNearestRow.holds Try.pinned (OpenSpec.ofChange memberNearestWrong)

/- THE SECOND FORM. 'bulk': how many values and letters a reading holds, each counted each time it is reached (what is shared counts as often as it is met; a slice's spare places count too). A statement '..UptoSaid' is the law's where the arguments, and the package variables that the reading takes, are together of bulk at most 1048576: NARROWER than '..Said'. Prove '..Said' where nothing that the law and all that it calls make is longer than what came in: it says more and counts as full. Else prove '..UptoSaid'. A law counts once. -/
mutual
def uptoBulk {H : Type} : DataW H → Nat
  | .lit (.string bytes) => bytes.length + 1
  | .lit _ => 1
  | .nil => 1
  | .ptr d => uptoBulk d + 1
  | .slice elems spare => uptoBulkAll elems + uptoBulkAll spare + 1
  | .agg parts => uptoBulkAll parts + 1
  | .iface _ d => uptoBulk d + 1
  | .map entries => uptoBulkEntries entries + 1
  | .held _ => 1
def uptoBulkAll {H : Type} : List (DataW H) → Nat
  | [] => 0
  | d :: r => uptoBulk d + uptoBulkAll r
def uptoBulkEntries {H : Type} : List (Lit × DataW H) → Nat
  | [] => 0
  | x :: r => uptoBulkEntry x + uptoBulkEntries r
def uptoBulkEntry {H : Type} : Lit × DataW H → Nat
  | (.string bytes, d) => bytes.length + uptoBulk d + 1
  | (_, d) => uptoBulk d + 1
 end
def uptoSmall : (H : Type) → List (DataW H) → Bool := fun _ ds => decide (uptoBulkAll ds ≤ 1048576)
def OpenSpec.upto (s : _root_.Go.ChangeSpec) : _root_.Go.OpenSpec := { _root_.Go.OpenSpec.ofChange s with cond := some uptoSmall }

/-- 'bonsailaw8.TreeOrder', WHERE WHAT IT READS IS OF BULK AT MOST 1048576: true; the input reads as it did. -/
def treeOrderUptoRow : OpenClaim := { program := "ythifbkjkiijkoaa", sum := "023cf99d4d19f20cb85d88d6520d0c55d1f698d898d5f46f064da2757f543b90", func := "bonsai/bonsailaw8.TreeOrder", spec := "treeOrder", recurses := true, apart := false, narrowed := true }
def TreeOrderUptoSaid : Prop := treeOrderUptoRow.holds Try.pinned (OpenSpec.upto treeOrderSpec)

/-- 'bonsailaw11.LatticeTells', WHERE WHAT IT READS IS OF BULK AT MOST 1048576: true; the input reads as it did. -/
def latticeTellsUptoRow : OpenClaim := { program := "ythifbkjkiijkoaa", sum := "023cf99d4d19f20cb85d88d6520d0c55d1f698d898d5f46f064da2757f543b90", func := "bonsai/bonsailaw11.LatticeTells", spec := "latticeTells", recurses := true, apart := false, narrowed := true }
def LatticeTellsUptoSaid : Prop := latticeTellsUptoRow.holds Try.pinned (OpenSpec.upto latticeTellsSpec)

/-- 'bonsailaw11.LatticeJoins', WHERE WHAT IT READS IS OF BULK AT MOST 1048576: true; the input reads as it did. -/
def latticeJoinsUptoRow : OpenClaim := { program := "ythifbkjkiijkoaa", sum := "023cf99d4d19f20cb85d88d6520d0c55d1f698d898d5f46f064da2757f543b90", func := "bonsai/bonsailaw11.LatticeJoins", spec := "latticeJoins", recurses := true, apart := false, narrowed := true }
def LatticeJoinsUptoSaid : Prop := latticeJoinsUptoRow.holds Try.pinned (OpenSpec.upto latticeJoinsSpec)

/-- 'bonsailaw11.LatticeNulls', WHERE WHAT IT READS IS OF BULK AT MOST 1048576: true; the input reads as it did. -/
def latticeNullsUptoRow : OpenClaim := { program := "ythifbkjkiijkoaa", sum := "023cf99d4d19f20cb85d88d6520d0c55d1f698d898d5f46f064da2757f543b90", func := "bonsai/bonsailaw11.LatticeNulls", spec := "latticeNulls", recurses := true, apart := false, narrowed := true }
def LatticeNullsUptoSaid : Prop := latticeNullsUptoRow.holds Try.pinned (OpenSpec.upto latticeNullsSpec)

/-- 'bonsailaw11.LatticeLists', WHERE WHAT IT READS IS OF BULK AT MOST 1048576: true; the input reads as it did. -/
def latticeListsUptoRow : OpenClaim := { program := "ythifbkjkiijkoaa", sum := "023cf99d4d19f20cb85d88d6520d0c55d1f698d898d5f46f064da2757f543b90", func := "bonsai/bonsailaw11.LatticeLists", spec := "latticeLists", recurses := true, apart := false, narrowed := true }
def LatticeListsUptoSaid : Prop := latticeListsUptoRow.holds Try.pinned (OpenSpec.upto latticeListsSpec)

/-- 'bonsailaw11.LatticeFits', WHERE WHAT IT READS IS OF BULK AT MOST 1048576: true; the input reads as it did. -/
def latticeFitsUptoRow : OpenClaim := { program := "ythifbkjkiijkoaa", sum := "023cf99d4d19f20cb85d88d6520d0c55d1f698d898d5f46f064da2757f543b90", func := "bonsai/bonsailaw11.LatticeFits", spec := "latticeFits", recurses := true, apart := false, narrowed := true }
def LatticeFitsUptoSaid : Prop := latticeFitsUptoRow.holds Try.pinned (OpenSpec.upto latticeFitsSpec)

/-- 'bonsailaw9.MemberNearest', WHERE WHAT IT READS IS OF BULK AT MOST 1048576: true; the input reads as it did. -/
def memberNearestUptoRow : OpenClaim := { program := "ythifbkjkiijkoaa", sum := "023cf99d4d19f20cb85d88d6520d0c55d1f698d898d5f46f064da2757f543b90", func := "bonsai/bonsailaw9.MemberNearest", spec := "memberNearest", inPlace := ["internal/abi.NoEscape"], unfollowed := true, recurses := true, apart := false, narrowed := true }
def MemberNearestUptoSaid : Prop := memberNearestUptoRow.holds Try.pinned (OpenSpec.upto memberNearestSpec)

end Rows
end Go.Proofs.Ythifbkjkiijkoaa
