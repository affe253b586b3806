/-
  No cell of these rows narrows 'for every input' (looked for: loops, veiled, ifaces, maps, wideKeys, modest, calm, conditions, laid).
  DERIVED. THE GIVEN ROWS OF THIS SEAT. 4 by the template 'for every input the law returns true; each argument reads behind the call as it read before'; 0 by the template 'total and deterministic' (their statements: YthppkfdlnkimhaaTotals.lean).
  GIVEN WITH THE SEED: the statements are not yours to turn. If you find one false, say at which input.
  Laid BY PROGRAM, IN A SANDBOX (cutbox-rows.mjs): the forced cells as the released guide's own fill.sh prints them over the translation fc0582f213b59618… (all of the seat's roots in one cut). By AI agents, Wed Nov 11 2026. No macro, syntax, notation, axiom, sorry.
-/
import Derived.Test.YthppkfdlnkimhaaChecked
import GoSem.Claim
import GoSem.ClaimJoined
import GoSem.ClaimMapViews
import Derived.JoinedTies
import Derived.KernelRfl
namespace Go.Proofs.Ythppkfdlnkimhaa
/- THE CELL 'sum', in the pinned program and in every row, IS THE sha256 OF THE DUMP (.gsa) THAT YthppkfdlnkimhaaProg.lean LOADS. Nothing in Lean hashes anything: it is a label: what it is worth is what the hold of that sum in a sandbox is worth. -/
noncomputable def Try.pinned : Pinned := { name := "ythppkfdlnkimhaa", sum := "fc0582f213b59618c9f97864e212ec3331821dcfdd3a72c254049099a4caeb71", checked := Try.checked }
namespace Rows
def none {H : Type} : Left H := { results := [], args := [] }

/-- 'bonsailaw10.ShapeRules': WHATEVER THE INPUT: true; the input reads as it did. -/
def shapeRulesSpec : ChangeSpec := { name := "shapeRules", fn := fun _ => fun
  | [d1, d2, d3, d4, d5] => { results := [.lit (.bool true)], args := [d1, d2, d3, d4, d5] }
  | _ => none }
def shapeRulesRow : OpenClaim := { program := "ythppkfdlnkimhaa", sum := "fc0582f213b59618c9f97864e212ec3331821dcfdd3a72c254049099a4caeb71", func := "bonsai/bonsailaw10.ShapeRules", spec := "shapeRules", inPlace := ["internal/abi.NoEscape"], unfollowed := true, recurses := true, apart := false }
def ShapeRulesSaid : Prop := shapeRulesRow.holds Try.pinned (OpenSpec.ofChange shapeRulesSpec)

/-- ITS FALSE NEIGHBOUR: 'it returns false'. Refute it at one input. -/
def shapeRulesWrong : ChangeSpec := { name := "shapeRules", fn := fun _ => fun
  | [d1, d2, d3, d4, d5] => { results := [.lit (.bool false)], args := [d1, d2, d3, d4, d5] }
  | _ => none }
def ShapeRulesWrongFalsely : Prop := shapeRulesRow.holds Try.pinned (OpenSpec.ofChange shapeRulesWrong)

/-- 'bonsailaw10.ShapeMissing': WHATEVER THE INPUT: true; the input reads as it did. -/
def shapeMissingSpec : ChangeSpec := { name := "shapeMissing", fn := fun _ => fun
  | [d1, d2, d3, d4] => { results := [.lit (.bool true)], args := [d1, d2, d3, d4] }
  | _ => none }
def shapeMissingRow : OpenClaim := { program := "ythppkfdlnkimhaa", sum := "fc0582f213b59618c9f97864e212ec3331821dcfdd3a72c254049099a4caeb71", func := "bonsai/bonsailaw10.ShapeMissing", spec := "shapeMissing", inPlace := ["internal/abi.NoEscape"], unfollowed := true, recurses := true, apart := false }
def ShapeMissingSaid : Prop := shapeMissingRow.holds Try.pinned (OpenSpec.ofChange shapeMissingSpec)

/-- ITS FALSE NEIGHBOUR: 'it returns false'. Refute it at one input. -/
def shapeMissingWrong : ChangeSpec := { name := "shapeMissing", fn := fun _ => fun
  | [d1, d2, d3, d4] => { results := [.lit (.bool false)], args := [d1, d2, d3, d4] }
  | _ => none }
def ShapeMissingWrongFalsely : Prop := shapeMissingRow.holds Try.pinned (OpenSpec.ofChange shapeMissingWrong)

/-- 'bonsailaw10.ShapeOverrides': WHATEVER THE INPUT: true; the input reads as it did. -/
def shapeOverridesSpec : ChangeSpec := { name := "shapeOverrides", fn := fun _ => fun
  | [d1, d2, d3, d4, d5] => { results := [.lit (.bool true)], args := [d1, d2, d3, d4, d5] }
  | _ => none }
def shapeOverridesRow : OpenClaim := { program := "ythppkfdlnkimhaa", sum := "fc0582f213b59618c9f97864e212ec3331821dcfdd3a72c254049099a4caeb71", func := "bonsai/bonsailaw10.ShapeOverrides", spec := "shapeOverrides", inPlace := ["internal/abi.NoEscape"], unfollowed := true, recurses := true, apart := false }
def ShapeOverridesSaid : Prop := shapeOverridesRow.holds Try.pinned (OpenSpec.ofChange shapeOverridesSpec)

/-- ITS FALSE NEIGHBOUR: 'it returns false'. Refute it at one input. -/
def shapeOverridesWrong : ChangeSpec := { name := "shapeOverrides", fn := fun _ => fun
  | [d1, d2, d3, d4, d5] => { results := [.lit (.bool false)], args := [d1, d2, d3, d4, d5] }
  | _ => none }
def ShapeOverridesWrongFalsely : Prop := shapeOverridesRow.holds Try.pinned (OpenSpec.ofChange shapeOverridesWrong)

/-- 'bonsailaw10.ShapeMembers': WHATEVER THE INPUT: true; the input reads as it did. -/
def shapeMembersSpec : ChangeSpec := { name := "shapeMembers", fn := fun _ => fun
  | [d1, d2] => { results := [.lit (.bool true)], args := [d1, d2] }
  | _ => none }
def shapeMembersRow : OpenClaim := { program := "ythppkfdlnkimhaa", sum := "fc0582f213b59618c9f97864e212ec3331821dcfdd3a72c254049099a4caeb71", func := "bonsai/bonsailaw10.ShapeMembers", spec := "shapeMembers", inPlace := ["internal/abi.NoEscape"], unfollowed := true, recurses := true, apart := false }
def ShapeMembersSaid : Prop := shapeMembersRow.holds Try.pinned (OpenSpec.ofChange shapeMembersSpec)

/-- ITS FALSE NEIGHBOUR: 'it returns false'. Refute it at one input. -/
def shapeMembersWrong : ChangeSpec := { name := "shapeMembers", fn := fun _ => fun
  | [d1, d2] => { results := [.lit (.bool false)], args := [d1, d2] }
  | _ => none }
def ShapeMembersWrongFalsely : Prop := shapeMembersRow.holds Try.pinned (OpenSpec.ofChange shapeMembersWrong)

/- THE SECOND FORM. 'bulk': how many values and letters a reading holds, each counted each time it is reached (what is shared counts as often as it is met; a slice's spare places count too). A statement '..UptoSaid' is the law's where the arguments, and the package variables that the reading takes, are together of bulk at most 1048576: NARROWER than '..Said'. Prove '..Said' where nothing that the law and all that it calls make is longer than what came in: it says more and counts as full. Else prove '..UptoSaid'. A law counts once. -/
mutual
def uptoBulk {H : Type} : DataW H → Nat
  | .lit (.string bytes) => bytes.length + 1
  | .lit _ => 1
  | .nil => 1
  | .ptr d => uptoBulk d + 1
  | .slice elems spare => uptoBulkAll elems + uptoBulkAll spare + 1
  | .agg parts => uptoBulkAll parts + 1
  | .iface _ d => uptoBulk d + 1
  | .map entries => uptoBulkEntries entries + 1
  | .held _ => 1
def uptoBulkAll {H : Type} : List (DataW H) → Nat
  | [] => 0
  | d :: r => uptoBulk d + uptoBulkAll r
def uptoBulkEntries {H : Type} : List (Lit × DataW H) → Nat
  | [] => 0
  | x :: r => uptoBulkEntry x + uptoBulkEntries r
def uptoBulkEntry {H : Type} : Lit × DataW H → Nat
  | (.string bytes, d) => bytes.length + uptoBulk d + 1
  | (_, d) => uptoBulk d + 1
 end
def uptoSmall : (H : Type) → List (DataW H) → Bool := fun _ ds => decide (uptoBulkAll ds ≤ 1048576)
def OpenSpec.upto (s : _root_.Go.ChangeSpec) : _root_.Go.OpenSpec := { _root_.Go.OpenSpec.ofChange s with cond := some uptoSmall }

/-- 'bonsailaw10.ShapeRules', WHERE WHAT IT READS IS OF BULK AT MOST 1048576: true; the input reads as it did. -/
def shapeRulesUptoRow : OpenClaim := { program := "ythppkfdlnkimhaa", sum := "fc0582f213b59618c9f97864e212ec3331821dcfdd3a72c254049099a4caeb71", func := "bonsai/bonsailaw10.ShapeRules", spec := "shapeRules", inPlace := ["internal/abi.NoEscape"], unfollowed := true, recurses := true, apart := false, narrowed := true }
def ShapeRulesUptoSaid : Prop := shapeRulesUptoRow.holds Try.pinned (OpenSpec.upto shapeRulesSpec)

/-- 'bonsailaw10.ShapeMissing', WHERE WHAT IT READS IS OF BULK AT MOST 1048576: true; the input reads as it did. -/
def shapeMissingUptoRow : OpenClaim := { program := "ythppkfdlnkimhaa", sum := "fc0582f213b59618c9f97864e212ec3331821dcfdd3a72c254049099a4caeb71", func := "bonsai/bonsailaw10.ShapeMissing", spec := "shapeMissing", inPlace := ["internal/abi.NoEscape"], unfollowed := true, recurses := true, apart := false, narrowed := true }
def ShapeMissingUptoSaid : Prop := shapeMissingUptoRow.holds Try.pinned (OpenSpec.upto shapeMissingSpec)

/-- 'bonsailaw10.ShapeOverrides', WHERE WHAT IT READS IS OF BULK AT MOST 1048576: true; the input reads as it did. -/
def shapeOverridesUptoRow : OpenClaim := { program := "ythppkfdlnkimhaa", sum := "fc0582f213b59618c9f97864e212ec3331821dcfdd3a72c254049099a4caeb71", func := "bonsai/bonsailaw10.ShapeOverrides", spec := "shapeOverrides", inPlace := ["internal/abi.NoEscape"], unfollowed := true, recurses := true, apart := false, narrowed := true }
def ShapeOverridesUptoSaid : Prop := shapeOverridesUptoRow.holds Try.pinned (OpenSpec.upto shapeOverridesSpec)

/-- 'bonsailaw10.ShapeMembers', WHERE WHAT IT READS IS OF BULK AT MOST 1048576: true; the input reads as it did. -/
def shapeMembersUptoRow : OpenClaim := { program := "ythppkfdlnkimhaa", sum := "fc0582f213b59618c9f97864e212ec3331821dcfdd3a72c254049099a4caeb71", func := "bonsai/bonsailaw10.ShapeMembers", spec := "shapeMembers", inPlace := ["internal/abi.NoEscape"], unfollowed := true, recurses := true, apart := false, narrowed := true }
def ShapeMembersUptoSaid : Prop := shapeMembersUptoRow.holds Try.pinned (OpenSpec.upto shapeMembersSpec)

end Rows
end Go.Proofs.Ythppkfdlnkimhaa
