/-
  No cell of these rows narrows 'for every input' (looked for: loops, veiled, ifaces, maps, wideKeys, modest, calm, conditions, laid).
  DERIVED. THE GIVEN ROWS OF THIS SEAT. 6 by the template 'for every input the law returns true; each argument reads behind the call as it read before'; 0 by the template 'total and deterministic' (their statements: YtlhkndjloeoodaaGreatTotals.lean).
  GIVEN WITH THE SEED: the statements are not yours to turn. If you find one false, say at which input.
  Laid BY PROGRAM, IN A SANDBOX (cutbox-rows.mjs): the forced cells as the released guide's own fill.sh prints them over the translation b9de7e6ae8a03902… (all of the seat's roots in one cut). By AI agents, Wed Nov 11 2026. No macro, syntax, notation, axiom, sorry.
-/
import Derived.Test.YtlhkndjloeoodaaGreatChecked
import GoSem.Claim
import GoSem.ClaimJoined
import GoSem.ClaimMapViews
import Derived.JoinedTies
import Derived.KernelRfl
namespace Go.Proofs.YtlhkndjloeoodaaGreat
/- THE CELL 'sum', in the pinned program and in every row, IS THE sha256 OF THE DUMP (.gsa) THAT YtlhkndjloeoodaaGreatProg.lean LOADS. Nothing in Lean hashes anything: it is a label: what it is worth is what the hold of that sum in a sandbox is worth. -/
noncomputable def Tryz.pinned : Pinned := { name := "ytlhkndjloeoodaagreat", sum := "b9de7e6ae8a03902745e4e18ed5dd006aba89127b9b6381211fddfd958466847", checked := Tryz.checked }
namespace Rows
def none {H : Type} : Left H := { results := [], args := [] }

/-- 'bonsailaw5.ArcWrites': WHATEVER THE INPUT: true; the input reads as it did. -/
def arcWritesSpec : ChangeSpec := { name := "arcWrites", fn := fun _ => fun
  | [d1, d2, d3, d4, d5, d6, d7, d8] => { results := [.lit (.bool true)], args := [d1, d2, d3, d4, d5, d6, d7, d8] }
  | _ => none }
def arcWritesRow : OpenClaim := { program := "ytlhkndjloeoodaagreat", sum := "b9de7e6ae8a03902745e4e18ed5dd006aba89127b9b6381211fddfd958466847", func := "bonsai/bonsailaw5.ArcWrites", spec := "arcWrites", inPlace := ["internal/bytealg.IndexByteString", "internal/bytealg.IndexString", "internal/abi.NoEscape"], unfollowed := true, recurses := true, named := ["internal/bytealg.MaxLen"], apart := false }
def ArcWritesSaid : Prop := arcWritesRow.holds Tryz.pinned (OpenSpec.ofChange arcWritesSpec)

/-- ITS FALSE NEIGHBOUR: 'it returns false'. Refute it at one input. -/
def arcWritesWrong : ChangeSpec := { name := "arcWrites", fn := fun _ => fun
  | [d1, d2, d3, d4, d5, d6, d7, d8] => { results := [.lit (.bool false)], args := [d1, d2, d3, d4, d5, d6, d7, d8] }
  | _ => none }
def ArcWritesWrongFalsely : Prop := arcWritesRow.holds Tryz.pinned (OpenSpec.ofChange arcWritesWrong)

/-- 'bonsailaw5.ArcReads': WHATEVER THE INPUT: true; the input reads as it did. -/
def arcReadsSpec : ChangeSpec := { name := "arcReads", fn := fun _ => fun
  | [d1, d2, d3, d4, d5, d6, d7] => { results := [.lit (.bool true)], args := [d1, d2, d3, d4, d5, d6, d7] }
  | _ => none }
def arcReadsRow : OpenClaim := { program := "ytlhkndjloeoodaagreat", sum := "b9de7e6ae8a03902745e4e18ed5dd006aba89127b9b6381211fddfd958466847", func := "bonsai/bonsailaw5.ArcReads", spec := "arcReads", inPlace := ["internal/bytealg.IndexByteString", "internal/bytealg.IndexString", "internal/abi.NoEscape"], unfollowed := true, recurses := true, named := ["internal/bytealg.MaxLen"], apart := false }
def ArcReadsSaid : Prop := arcReadsRow.holds Tryz.pinned (OpenSpec.ofChange arcReadsSpec)

/-- ITS FALSE NEIGHBOUR: 'it returns false'. Refute it at one input. -/
def arcReadsWrong : ChangeSpec := { name := "arcReads", fn := fun _ => fun
  | [d1, d2, d3, d4, d5, d6, d7] => { results := [.lit (.bool false)], args := [d1, d2, d3, d4, d5, d6, d7] }
  | _ => none }
def ArcReadsWrongFalsely : Prop := arcReadsRow.holds Tryz.pinned (OpenSpec.ofChange arcReadsWrong)

/-- 'bonsailaw5.ArcBack': WHATEVER THE INPUT: true; the input reads as it did. -/
def arcBackSpec : ChangeSpec := { name := "arcBack", fn := fun _ => fun
  | [d1, d2, d3] => { results := [.lit (.bool true)], args := [d1, d2, d3] }
  | _ => none }
def arcBackRow : OpenClaim := { program := "ytlhkndjloeoodaagreat", sum := "b9de7e6ae8a03902745e4e18ed5dd006aba89127b9b6381211fddfd958466847", func := "bonsai/bonsailaw5.ArcBack", spec := "arcBack", inPlace := ["internal/bytealg.IndexByteString", "internal/bytealg.IndexString", "internal/abi.NoEscape"], unfollowed := true, recurses := true, named := ["internal/bytealg.MaxLen"], apart := false }
def ArcBackSaid : Prop := arcBackRow.holds Tryz.pinned (OpenSpec.ofChange arcBackSpec)

/-- ITS FALSE NEIGHBOUR: 'it returns false'. Refute it at one input. -/
def arcBackWrong : ChangeSpec := { name := "arcBack", fn := fun _ => fun
  | [d1, d2, d3] => { results := [.lit (.bool false)], args := [d1, d2, d3] }
  | _ => none }
def ArcBackWrongFalsely : Prop := arcBackRow.holds Tryz.pinned (OpenSpec.ofChange arcBackWrong)

/-- 'bonsailaw5.ArcCopies': WHATEVER THE INPUT: true; the input reads as it did. -/
def arcCopiesSpec : ChangeSpec := { name := "arcCopies", fn := fun _ => fun
  | [d1, d2] => { results := [.lit (.bool true)], args := [d1, d2] }
  | _ => none }
def arcCopiesRow : OpenClaim := { program := "ytlhkndjloeoodaagreat", sum := "b9de7e6ae8a03902745e4e18ed5dd006aba89127b9b6381211fddfd958466847", func := "bonsai/bonsailaw5.ArcCopies", spec := "arcCopies", inPlace := ["internal/bytealg.IndexByteString", "internal/bytealg.IndexString", "internal/abi.NoEscape"], unfollowed := true, recurses := true, named := ["internal/bytealg.MaxLen"], apart := false }
def ArcCopiesSaid : Prop := arcCopiesRow.holds Tryz.pinned (OpenSpec.ofChange arcCopiesSpec)

/-- ITS FALSE NEIGHBOUR: 'it returns false'. Refute it at one input. -/
def arcCopiesWrong : ChangeSpec := { name := "arcCopies", fn := fun _ => fun
  | [d1, d2] => { results := [.lit (.bool false)], args := [d1, d2] }
  | _ => none }
def ArcCopiesWrongFalsely : Prop := arcCopiesRow.holds Tryz.pinned (OpenSpec.ofChange arcCopiesWrong)

/-- 'bonsailaw5.ArcLimits': WHATEVER THE INPUT: true; the input reads as it did. -/
def arcLimitsSpec : ChangeSpec := { name := "arcLimits", fn := fun _ => fun
  | [d1, d2] => { results := [.lit (.bool true)], args := [d1, d2] }
  | _ => none }
def arcLimitsRow : OpenClaim := { program := "ytlhkndjloeoodaagreat", sum := "b9de7e6ae8a03902745e4e18ed5dd006aba89127b9b6381211fddfd958466847", func := "bonsai/bonsailaw5.ArcLimits", spec := "arcLimits", inPlace := ["internal/bytealg.IndexByteString", "internal/bytealg.IndexString", "internal/abi.NoEscape"], unfollowed := true, recurses := true, named := ["internal/bytealg.MaxLen"], apart := false }
def ArcLimitsSaid : Prop := arcLimitsRow.holds Tryz.pinned (OpenSpec.ofChange arcLimitsSpec)

/-- ITS FALSE NEIGHBOUR: 'it returns false'. Refute it at one input. -/
def arcLimitsWrong : ChangeSpec := { name := "arcLimits", fn := fun _ => fun
  | [d1, d2] => { results := [.lit (.bool false)], args := [d1, d2] }
  | _ => none }
def ArcLimitsWrongFalsely : Prop := arcLimitsRow.holds Tryz.pinned (OpenSpec.ofChange arcLimitsWrong)

/-- 'bonsailaw5.ArcPools': WHATEVER THE INPUT: true; the input reads as it did. -/
def arcPoolsSpec : ChangeSpec := { name := "arcPools", fn := fun _ => fun
  | [d1, d2] => { results := [.lit (.bool true)], args := [d1, d2] }
  | _ => none }
def arcPoolsRow : OpenClaim := { program := "ytlhkndjloeoodaagreat", sum := "b9de7e6ae8a03902745e4e18ed5dd006aba89127b9b6381211fddfd958466847", func := "bonsai/bonsailaw5.ArcPools", spec := "arcPools", inPlace := ["internal/bytealg.IndexByteString", "internal/bytealg.IndexString", "internal/abi.NoEscape"], unfollowed := true, recurses := true, named := ["internal/bytealg.MaxLen"], apart := false }
def ArcPoolsSaid : Prop := arcPoolsRow.holds Tryz.pinned (OpenSpec.ofChange arcPoolsSpec)

/-- ITS FALSE NEIGHBOUR: 'it returns false'. Refute it at one input. -/
def arcPoolsWrong : ChangeSpec := { name := "arcPools", fn := fun _ => fun
  | [d1, d2] => { results := [.lit (.bool false)], args := [d1, d2] }
  | _ => none }
def ArcPoolsWrongFalsely : Prop := arcPoolsRow.holds Tryz.pinned (OpenSpec.ofChange arcPoolsWrong)

/- THE SECOND FORM. 'bulk': how many values and letters a reading holds, each counted each time it is reached (what is shared counts as often as it is met; a slice's spare places count too). A statement '..UptoSaid' is the law's where the arguments, and the package variables that the reading takes, are together of bulk at most 1048576: NARROWER than '..Said'. Prove '..Said' where nothing that the law and all that it calls make is longer than what came in: it says more and counts as full. Else prove '..UptoSaid'. A law counts once. -/
mutual
def uptoBulk {H : Type} : DataW H → Nat
  | .lit (.string bytes) => bytes.length + 1
  | .lit _ => 1
  | .nil => 1
  | .ptr d => uptoBulk d + 1
  | .slice elems spare => uptoBulkAll elems + uptoBulkAll spare + 1
  | .agg parts => uptoBulkAll parts + 1
  | .iface _ d => uptoBulk d + 1
  | .map entries => uptoBulkEntries entries + 1
  | .held _ => 1
def uptoBulkAll {H : Type} : List (DataW H) → Nat
  | [] => 0
  | d :: r => uptoBulk d + uptoBulkAll r
def uptoBulkEntries {H : Type} : List (Lit × DataW H) → Nat
  | [] => 0
  | x :: r => uptoBulkEntry x + uptoBulkEntries r
def uptoBulkEntry {H : Type} : Lit × DataW H → Nat
  | (.string bytes, d) => bytes.length + uptoBulk d + 1
  | (_, d) => uptoBulk d + 1
 end
def uptoSmall : (H : Type) → List (DataW H) → Bool := fun _ ds => decide (uptoBulkAll ds ≤ 1048576)
def OpenSpec.upto (s : _root_.Go.ChangeSpec) : _root_.Go.OpenSpec := { _root_.Go.OpenSpec.ofChange s with cond := some uptoSmall }

/-- 'bonsailaw5.ArcWrites', WHERE WHAT IT READS IS OF BULK AT MOST 1048576: true; the input reads as it did. -/
def arcWritesUptoRow : OpenClaim := { program := "ytlhkndjloeoodaagreat", sum := "b9de7e6ae8a03902745e4e18ed5dd006aba89127b9b6381211fddfd958466847", func := "bonsai/bonsailaw5.ArcWrites", spec := "arcWrites", inPlace := ["internal/bytealg.IndexByteString", "internal/bytealg.IndexString", "internal/abi.NoEscape"], unfollowed := true, recurses := true, named := ["internal/bytealg.MaxLen"], apart := false, narrowed := true }
def ArcWritesUptoSaid : Prop := arcWritesUptoRow.holds Tryz.pinned (OpenSpec.upto arcWritesSpec)

/-- 'bonsailaw5.ArcReads', WHERE WHAT IT READS IS OF BULK AT MOST 1048576: true; the input reads as it did. -/
def arcReadsUptoRow : OpenClaim := { program := "ytlhkndjloeoodaagreat", sum := "b9de7e6ae8a03902745e4e18ed5dd006aba89127b9b6381211fddfd958466847", func := "bonsai/bonsailaw5.ArcReads", spec := "arcReads", inPlace := ["internal/bytealg.IndexByteString", "internal/bytealg.IndexString", "internal/abi.NoEscape"], unfollowed := true, recurses := true, named := ["internal/bytealg.MaxLen"], apart := false, narrowed := true }
def ArcReadsUptoSaid : Prop := arcReadsUptoRow.holds Tryz.pinned (OpenSpec.upto arcReadsSpec)

/-- 'bonsailaw5.ArcBack', WHERE WHAT IT READS IS OF BULK AT MOST 1048576: true; the input reads as it did. -/
def arcBackUptoRow : OpenClaim := { program := "ytlhkndjloeoodaagreat", sum := "b9de7e6ae8a03902745e4e18ed5dd006aba89127b9b6381211fddfd958466847", func := "bonsai/bonsailaw5.ArcBack", spec := "arcBack", inPlace := ["internal/bytealg.IndexByteString", "internal/bytealg.IndexString", "internal/abi.NoEscape"], unfollowed := true, recurses := true, named := ["internal/bytealg.MaxLen"], apart := false, narrowed := true }
def ArcBackUptoSaid : Prop := arcBackUptoRow.holds Tryz.pinned (OpenSpec.upto arcBackSpec)

/-- 'bonsailaw5.ArcCopies', WHERE WHAT IT READS IS OF BULK AT MOST 1048576: true; the input reads as it did. -/
def arcCopiesUptoRow : OpenClaim := { program := "ytlhkndjloeoodaagreat", sum := "b9de7e6ae8a03902745e4e18ed5dd006aba89127b9b6381211fddfd958466847", func := "bonsai/bonsailaw5.ArcCopies", spec := "arcCopies", inPlace := ["internal/bytealg.IndexByteString", "internal/bytealg.IndexString", "internal/abi.NoEscape"], unfollowed := true, recurses := true, named := ["internal/bytealg.MaxLen"], apart := false, narrowed := true }
def ArcCopiesUptoSaid : Prop := arcCopiesUptoRow.holds Tryz.pinned (OpenSpec.upto arcCopiesSpec)

/-- 'bonsailaw5.ArcLimits', WHERE WHAT IT READS IS OF BULK AT MOST 1048576: true; the input reads as it did. -/
def arcLimitsUptoRow : OpenClaim := { program := "ytlhkndjloeoodaagreat", sum := "b9de7e6ae8a03902745e4e18ed5dd006aba89127b9b6381211fddfd958466847", func := "bonsai/bonsailaw5.ArcLimits", spec := "arcLimits", inPlace := ["internal/bytealg.IndexByteString", "internal/bytealg.IndexString", "internal/abi.NoEscape"], unfollowed := true, recurses := true, named := ["internal/bytealg.MaxLen"], apart := false, narrowed := true }
def ArcLimitsUptoSaid : Prop := arcLimitsUptoRow.holds Tryz.pinned (OpenSpec.upto arcLimitsSpec)

/-- 'bonsailaw5.ArcPools', WHERE WHAT IT READS IS OF BULK AT MOST 1048576: true; the input reads as it did. -/
def arcPoolsUptoRow : OpenClaim := { program := "ytlhkndjloeoodaagreat", sum := "b9de7e6ae8a03902745e4e18ed5dd006aba89127b9b6381211fddfd958466847", func := "bonsai/bonsailaw5.ArcPools", spec := "arcPools", inPlace := ["internal/bytealg.IndexByteString", "internal/bytealg.IndexString", "internal/abi.NoEscape"], unfollowed := true, recurses := true, named := ["internal/bytealg.MaxLen"], apart := false, narrowed := true }
def ArcPoolsUptoSaid : Prop := arcPoolsUptoRow.holds Tryz.pinned (OpenSpec.upto arcPoolsSpec)

end Rows
end Go.Proofs.YtlhkndjloeoodaaGreat
