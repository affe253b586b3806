/-
  No cell of these rows narrows 'for every input' (looked for: loops, veiled, ifaces, maps, wideKeys, modest, calm, conditions, laid).
  DERIVED. THE GIVEN ROWS OF THIS SEAT. 5 by the template 'for every input the law returns true; each argument reads behind the call as it read before'; 0 by the template 'total and deterministic' (their statements: YtbinlpnmldaplaaTotals.lean).
  GIVEN WITH THE SEED: the statements are not yours to turn. If you find one false, say at which input.
  Laid BY PROGRAM, IN A SANDBOX (cutbox-rows.mjs): the forced cells as the released guide's own fill.sh prints them over the translation e8a55a7a9cf17b50… (all of the seat's roots in one cut). By AI agents, Wed Nov 11 2026. No macro, syntax, notation, axiom, sorry.
-/
import Derived.Test.YtbinlpnmldaplaaChecked
import GoSem.Claim
import GoSem.ClaimJoined
import GoSem.ClaimMapViews
import Derived.JoinedTies
import Derived.KernelRfl
namespace Go.Proofs.Ytbinlpnmldaplaa
/- THE CELL 'sum', in the pinned program and in every row, IS THE sha256 OF THE DUMP (.gsa) THAT YtbinlpnmldaplaaProg.lean LOADS. Nothing in Lean hashes anything: it is a label: what it is worth is what the hold of that sum in a sandbox is worth. -/
noncomputable def Try.pinned : Pinned := { name := "ytbinlpnmldaplaa", sum := "e8a55a7a9cf17b50d3cdad35b4e5b1dd5bb0afe599a1210ab48dc7e9f5c8f9c6", checked := Try.checked }
namespace Rows
def none {H : Type} : Left H := { results := [], args := [] }

/-- 'bonsailaw9.MemberNearest': WHATEVER THE INPUT: true; the input reads as it did. -/
def memberNearestSpec : ChangeSpec := { name := "memberNearest", fn := fun _ => fun
  | [d1, d2] => { results := [.lit (.bool true)], args := [d1, d2] }
  | _ => none }
def memberNearestRow : OpenClaim := { program := "ytbinlpnmldaplaa", sum := "e8a55a7a9cf17b50d3cdad35b4e5b1dd5bb0afe599a1210ab48dc7e9f5c8f9c6", func := "bonsai/bonsailaw9.MemberNearest", spec := "memberNearest", inPlace := ["internal/abi.NoEscape"], unfollowed := true, recurses := true, apart := false }
def MemberNearestSaid : Prop := memberNearestRow.holds Try.pinned (OpenSpec.ofChange memberNearestSpec)

/-- ITS FALSE NEIGHBOUR: 'it returns false'. Refute it at one input. -/
def memberNearestWrong : ChangeSpec := { name := "memberNearest", fn := fun _ => fun
  | [d1, d2] => { results := [.lit (.bool false)], args := [d1, d2] }
  | _ => none }
def MemberNearestWrongFalsely : Prop := memberNearestRow.holds Try.pinned (OpenSpec.ofChange memberNearestWrong)

/-- 'bonsailaw9.MemberHides': WHATEVER THE INPUT: true; the input reads as it did. -/
def memberHidesSpec : ChangeSpec := { name := "memberHides", fn := fun _ => fun
  | [d1, d2, d3, d4] => { results := [.lit (.bool true)], args := [d1, d2, d3, d4] }
  | _ => none }
def memberHidesRow : OpenClaim := { program := "ytbinlpnmldaplaa", sum := "e8a55a7a9cf17b50d3cdad35b4e5b1dd5bb0afe599a1210ab48dc7e9f5c8f9c6", func := "bonsai/bonsailaw9.MemberHides", spec := "memberHides", inPlace := ["internal/abi.NoEscape"], unfollowed := true, recurses := true, apart := false }
def MemberHidesSaid : Prop := memberHidesRow.holds Try.pinned (OpenSpec.ofChange memberHidesSpec)

/-- ITS FALSE NEIGHBOUR: 'it returns false'. Refute it at one input. -/
def memberHidesWrong : ChangeSpec := { name := "memberHides", fn := fun _ => fun
  | [d1, d2, d3, d4] => { results := [.lit (.bool false)], args := [d1, d2, d3, d4] }
  | _ => none }
def MemberHidesWrongFalsely : Prop := memberHidesRow.holds Try.pinned (OpenSpec.ofChange memberHidesWrong)

/-- 'bonsailaw9.MemberVirtual': WHATEVER THE INPUT: true; the input reads as it did. -/
def memberVirtualSpec : ChangeSpec := { name := "memberVirtual", fn := fun _ => fun
  | [d1, d2, d3] => { results := [.lit (.bool true)], args := [d1, d2, d3] }
  | _ => none }
def memberVirtualRow : OpenClaim := { program := "ytbinlpnmldaplaa", sum := "e8a55a7a9cf17b50d3cdad35b4e5b1dd5bb0afe599a1210ab48dc7e9f5c8f9c6", func := "bonsai/bonsailaw9.MemberVirtual", spec := "memberVirtual", inPlace := ["internal/abi.NoEscape"], unfollowed := true, recurses := true, apart := false }
def MemberVirtualSaid : Prop := memberVirtualRow.holds Try.pinned (OpenSpec.ofChange memberVirtualSpec)

/-- ITS FALSE NEIGHBOUR: 'it returns false'. Refute it at one input. -/
def memberVirtualWrong : ChangeSpec := { name := "memberVirtual", fn := fun _ => fun
  | [d1, d2, d3] => { results := [.lit (.bool false)], args := [d1, d2, d3] }
  | _ => none }
def MemberVirtualWrongFalsely : Prop := memberVirtualRow.holds Try.pinned (OpenSpec.ofChange memberVirtualWrong)

/-- 'bonsailaw9.MemberInits': WHATEVER THE INPUT: true; the input reads as it did. -/
def memberInitsSpec : ChangeSpec := { name := "memberInits", fn := fun _ => fun
  | [d] => { results := [.lit (.bool true)], args := [d] }
  | _ => none }
def memberInitsRow : OpenClaim := { program := "ytbinlpnmldaplaa", sum := "e8a55a7a9cf17b50d3cdad35b4e5b1dd5bb0afe599a1210ab48dc7e9f5c8f9c6", func := "bonsai/bonsailaw9.MemberInits", spec := "memberInits", inPlace := ["internal/abi.NoEscape"], unfollowed := true, recurses := true, apart := false }
def MemberInitsSaid : Prop := memberInitsRow.holds Try.pinned (OpenSpec.ofChange memberInitsSpec)

/-- ITS FALSE NEIGHBOUR: 'it returns false'. Refute it at one input. -/
def memberInitsWrong : ChangeSpec := { name := "memberInits", fn := fun _ => fun
  | [d] => { results := [.lit (.bool false)], args := [d] }
  | _ => none }
def MemberInitsWrongFalsely : Prop := memberInitsRow.holds Try.pinned (OpenSpec.ofChange memberInitsWrong)

/-- 'bonsailaw9.MemberIfaces': WHATEVER THE INPUT: true; the input reads as it did. -/
def memberIfacesSpec : ChangeSpec := { name := "memberIfaces", fn := fun _ => fun
  | [d1, d2, d3, d4, d5] => { results := [.lit (.bool true)], args := [d1, d2, d3, d4, d5] }
  | _ => none }
def memberIfacesRow : OpenClaim := { program := "ytbinlpnmldaplaa", sum := "e8a55a7a9cf17b50d3cdad35b4e5b1dd5bb0afe599a1210ab48dc7e9f5c8f9c6", func := "bonsai/bonsailaw9.MemberIfaces", spec := "memberIfaces", inPlace := ["internal/abi.NoEscape"], unfollowed := true, recurses := true, apart := false }
def MemberIfacesSaid : Prop := memberIfacesRow.holds Try.pinned (OpenSpec.ofChange memberIfacesSpec)

/-- ITS FALSE NEIGHBOUR: 'it returns false'. Refute it at one input. -/
def memberIfacesWrong : ChangeSpec := { name := "memberIfaces", fn := fun _ => fun
  | [d1, d2, d3, d4, d5] => { results := [.lit (.bool false)], args := [d1, d2, d3, d4, d5] }
  | _ => none }
def MemberIfacesWrongFalsely : Prop := memberIfacesRow.holds Try.pinned (OpenSpec.ofChange memberIfacesWrong)

/- THE SECOND FORM. 'bulk': how many values and letters a reading holds, each counted each time it is reached (what is shared counts as often as it is met; a slice's spare places count too). A statement '..UptoSaid' is the law's where the arguments, and the package variables that the reading takes, are together of bulk at most 1048576: NARROWER than '..Said'. Prove '..Said' where nothing that the law and all that it calls make is longer than what came in: it says more and counts as full. Else prove '..UptoSaid'. A law counts once. -/
mutual
def uptoBulk {H : Type} : DataW H → Nat
  | .lit (.string bytes) => bytes.length + 1
  | .lit _ => 1
  | .nil => 1
  | .ptr d => uptoBulk d + 1
  | .slice elems spare => uptoBulkAll elems + uptoBulkAll spare + 1
  | .agg parts => uptoBulkAll parts + 1
  | .iface _ d => uptoBulk d + 1
  | .map entries => uptoBulkEntries entries + 1
  | .held _ => 1
def uptoBulkAll {H : Type} : List (DataW H) → Nat
  | [] => 0
  | d :: r => uptoBulk d + uptoBulkAll r
def uptoBulkEntries {H : Type} : List (Lit × DataW H) → Nat
  | [] => 0
  | x :: r => uptoBulkEntry x + uptoBulkEntries r
def uptoBulkEntry {H : Type} : Lit × DataW H → Nat
  | (.string bytes, d) => bytes.length + uptoBulk d + 1
  | (_, d) => uptoBulk d + 1
 end
def uptoSmall : (H : Type) → List (DataW H) → Bool := fun _ ds => decide (uptoBulkAll ds ≤ 1048576)
def OpenSpec.upto (s : _root_.Go.ChangeSpec) : _root_.Go.OpenSpec := { _root_.Go.OpenSpec.ofChange s with cond := some uptoSmall }

/-- 'bonsailaw9.MemberNearest', WHERE WHAT IT READS IS OF BULK AT MOST 1048576: true; the input reads as it did. -/
def memberNearestUptoRow : OpenClaim := { program := "ytbinlpnmldaplaa", sum := "e8a55a7a9cf17b50d3cdad35b4e5b1dd5bb0afe599a1210ab48dc7e9f5c8f9c6", func := "bonsai/bonsailaw9.MemberNearest", spec := "memberNearest", inPlace := ["internal/abi.NoEscape"], unfollowed := true, recurses := true, apart := false, narrowed := true }
def MemberNearestUptoSaid : Prop := memberNearestUptoRow.holds Try.pinned (OpenSpec.upto memberNearestSpec)

/-- 'bonsailaw9.MemberHides', WHERE WHAT IT READS IS OF BULK AT MOST 1048576: true; the input reads as it did. -/
def memberHidesUptoRow : OpenClaim := { program := "ytbinlpnmldaplaa", sum := "e8a55a7a9cf17b50d3cdad35b4e5b1dd5bb0afe599a1210ab48dc7e9f5c8f9c6", func := "bonsai/bonsailaw9.MemberHides", spec := "memberHides", inPlace := ["internal/abi.NoEscape"], unfollowed := true, recurses := true, apart := false, narrowed := true }
def MemberHidesUptoSaid : Prop := memberHidesUptoRow.holds Try.pinned (OpenSpec.upto memberHidesSpec)

/-- 'bonsailaw9.MemberVirtual', WHERE WHAT IT READS IS OF BULK AT MOST 1048576: true; the input reads as it did. -/
def memberVirtualUptoRow : OpenClaim := { program := "ytbinlpnmldaplaa", sum := "e8a55a7a9cf17b50d3cdad35b4e5b1dd5bb0afe599a1210ab48dc7e9f5c8f9c6", func := "bonsai/bonsailaw9.MemberVirtual", spec := "memberVirtual", inPlace := ["internal/abi.NoEscape"], unfollowed := true, recurses := true, apart := false, narrowed := true }
def MemberVirtualUptoSaid : Prop := memberVirtualUptoRow.holds Try.pinned (OpenSpec.upto memberVirtualSpec)

/-- 'bonsailaw9.MemberInits', WHERE WHAT IT READS IS OF BULK AT MOST 1048576: true; the input reads as it did. -/
def memberInitsUptoRow : OpenClaim := { program := "ytbinlpnmldaplaa", sum := "e8a55a7a9cf17b50d3cdad35b4e5b1dd5bb0afe599a1210ab48dc7e9f5c8f9c6", func := "bonsai/bonsailaw9.MemberInits", spec := "memberInits", inPlace := ["internal/abi.NoEscape"], unfollowed := true, recurses := true, apart := false, narrowed := true }
def MemberInitsUptoSaid : Prop := memberInitsUptoRow.holds Try.pinned (OpenSpec.upto memberInitsSpec)

/-- 'bonsailaw9.MemberIfaces', WHERE WHAT IT READS IS OF BULK AT MOST 1048576: true; the input reads as it did. -/
def memberIfacesUptoRow : OpenClaim := { program := "ytbinlpnmldaplaa", sum := "e8a55a7a9cf17b50d3cdad35b4e5b1dd5bb0afe599a1210ab48dc7e9f5c8f9c6", func := "bonsai/bonsailaw9.MemberIfaces", spec := "memberIfaces", inPlace := ["internal/abi.NoEscape"], unfollowed := true, recurses := true, apart := false, narrowed := true }
def MemberIfacesUptoSaid : Prop := memberIfacesUptoRow.holds Try.pinned (OpenSpec.upto memberIfacesSpec)

end Rows
end Go.Proofs.Ytbinlpnmldaplaa
