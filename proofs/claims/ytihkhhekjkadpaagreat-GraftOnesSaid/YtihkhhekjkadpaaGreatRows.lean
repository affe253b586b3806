/-
  No cell of these rows narrows 'for every input' (looked for: loops, veiled, ifaces, maps, wideKeys, modest, calm, conditions, laid).
  DERIVED. THE GIVEN ROWS OF THIS SEAT. 5 by the template 'for every input the law returns true; each argument reads behind the call as it read before'; 0 by the template 'total and deterministic' (their statements: YtihkhhekjkadpaaGreatTotals.lean).
  GIVEN WITH THE SEED: the statements are not yours to turn. If you find one false, say at which input.
  Laid BY PROGRAM, IN A SANDBOX (cutbox-rows.mjs): the forced cells as the released guide's own fill.sh prints them over the translation 796bb35b2045ac16… (all of the seat's roots in one cut). By AI agents, Wed Nov 11 2026. No macro, syntax, notation, axiom, sorry.
-/
import Derived.Test.YtihkhhekjkadpaaGreatChecked
import GoSem.Claim
import GoSem.ClaimJoined
import GoSem.ClaimMapViews
import Derived.JoinedTies
import Derived.KernelRfl
namespace Go.Proofs.YtihkhhekjkadpaaGreat
/- THE CELL 'sum', in the pinned program and in every row, IS THE sha256 OF THE DUMP (.gsa) THAT YtihkhhekjkadpaaGreatProg.lean LOADS. Nothing in Lean hashes anything: it is a label: what it is worth is what the hold of that sum in a sandbox is worth. -/
noncomputable def Tryz.pinned : Pinned := { name := "ytihkhhekjkadpaagreat", sum := "796bb35b2045ac161830a39626342dfb2da434fad1c776eaa41260498f5cac41", checked := Tryz.checked }
namespace Rows
def none {H : Type} : Left H := { results := [], args := [] }

/-- 'bonsailaw24.GraftTells': WHATEVER THE INPUT: true; the input reads as it did. -/
def graftTellsSpec : ChangeSpec := { name := "graftTells", fn := fun _ => fun
  | [d1, d2, d3, d4, d5, d6, d7, d8] => { results := [.lit (.bool true)], args := [d1, d2, d3, d4, d5, d6, d7, d8] }
  | _ => none }
def graftTellsRow : OpenClaim := { program := "ytihkhhekjkadpaagreat", sum := "796bb35b2045ac161830a39626342dfb2da434fad1c776eaa41260498f5cac41", func := "bonsai/bonsailaw24.GraftTells", spec := "graftTells", inPlace := ["internal/abi.NoEscape", "internal/bytealg.IndexByteString", "internal/bytealg.IndexString"], unfollowed := true, recurses := true, named := ["internal/bytealg.MaxLen"], apart := false }
def GraftTellsSaid : Prop := graftTellsRow.holds Tryz.pinned (OpenSpec.ofChange graftTellsSpec)

/-- ITS FALSE NEIGHBOUR: 'it returns false'. Refute it at one input. -/
def graftTellsWrong : ChangeSpec := { name := "graftTells", fn := fun _ => fun
  | [d1, d2, d3, d4, d5, d6, d7, d8] => { results := [.lit (.bool false)], args := [d1, d2, d3, d4, d5, d6, d7, d8] }
  | _ => none }
def GraftTellsWrongFalsely : Prop := graftTellsRow.holds Tryz.pinned (OpenSpec.ofChange graftTellsWrong)

/-- 'bonsailaw24.GraftKeeps': WHATEVER THE INPUT: true; the input reads as it did. -/
def graftKeepsSpec : ChangeSpec := { name := "graftKeeps", fn := fun _ => fun
  | [d1, d2, d3, d4, d5, d6, d7, d8] => { results := [.lit (.bool true)], args := [d1, d2, d3, d4, d5, d6, d7, d8] }
  | _ => none }
def graftKeepsRow : OpenClaim := { program := "ytihkhhekjkadpaagreat", sum := "796bb35b2045ac161830a39626342dfb2da434fad1c776eaa41260498f5cac41", func := "bonsai/bonsailaw24.GraftKeeps", spec := "graftKeeps", inPlace := ["internal/abi.NoEscape", "internal/bytealg.IndexByteString", "internal/bytealg.IndexString"], unfollowed := true, recurses := true, named := ["internal/bytealg.MaxLen"], apart := false }
def GraftKeepsSaid : Prop := graftKeepsRow.holds Tryz.pinned (OpenSpec.ofChange graftKeepsSpec)

/-- ITS FALSE NEIGHBOUR: 'it returns false'. Refute it at one input. -/
def graftKeepsWrong : ChangeSpec := { name := "graftKeeps", fn := fun _ => fun
  | [d1, d2, d3, d4, d5, d6, d7, d8] => { results := [.lit (.bool false)], args := [d1, d2, d3, d4, d5, d6, d7, d8] }
  | _ => none }
def GraftKeepsWrongFalsely : Prop := graftKeepsRow.holds Tryz.pinned (OpenSpec.ofChange graftKeepsWrong)

/-- 'bonsailaw24.GraftFinds': WHATEVER THE INPUT: true; the input reads as it did. -/
def graftFindsSpec : ChangeSpec := { name := "graftFinds", fn := fun _ => fun
  | [d1, d2, d3, d4, d5, d6] => { results := [.lit (.bool true)], args := [d1, d2, d3, d4, d5, d6] }
  | _ => none }
def graftFindsRow : OpenClaim := { program := "ytihkhhekjkadpaagreat", sum := "796bb35b2045ac161830a39626342dfb2da434fad1c776eaa41260498f5cac41", func := "bonsai/bonsailaw24.GraftFinds", spec := "graftFinds", inPlace := ["internal/abi.NoEscape", "internal/bytealg.IndexByteString", "internal/bytealg.IndexString"], unfollowed := true, recurses := true, named := ["internal/bytealg.MaxLen"], apart := false }
def GraftFindsSaid : Prop := graftFindsRow.holds Tryz.pinned (OpenSpec.ofChange graftFindsSpec)

/-- ITS FALSE NEIGHBOUR: 'it returns false'. Refute it at one input. -/
def graftFindsWrong : ChangeSpec := { name := "graftFinds", fn := fun _ => fun
  | [d1, d2, d3, d4, d5, d6] => { results := [.lit (.bool false)], args := [d1, d2, d3, d4, d5, d6] }
  | _ => none }
def GraftFindsWrongFalsely : Prop := graftFindsRow.holds Tryz.pinned (OpenSpec.ofChange graftFindsWrong)

/-- 'bonsailaw24.GraftOnes': WHATEVER THE INPUT: true; the input reads as it did. -/
def graftOnesSpec : ChangeSpec := { name := "graftOnes", fn := fun _ => fun
  | [d] => { results := [.lit (.bool true)], args := [d] }
  | _ => none }
def graftOnesRow : OpenClaim := { program := "ytihkhhekjkadpaagreat", sum := "796bb35b2045ac161830a39626342dfb2da434fad1c776eaa41260498f5cac41", func := "bonsai/bonsailaw24.GraftOnes", spec := "graftOnes", inPlace := ["internal/abi.NoEscape", "internal/bytealg.IndexByteString", "internal/bytealg.IndexString"], unfollowed := true, recurses := true, named := ["internal/bytealg.MaxLen"], apart := false }
def GraftOnesSaid : Prop := graftOnesRow.holds Tryz.pinned (OpenSpec.ofChange graftOnesSpec)

/-- ITS FALSE NEIGHBOUR: 'it returns false'. Refute it at one input. -/
def graftOnesWrong : ChangeSpec := { name := "graftOnes", fn := fun _ => fun
  | [d] => { results := [.lit (.bool false)], args := [d] }
  | _ => none }
def GraftOnesWrongFalsely : Prop := graftOnesRow.holds Tryz.pinned (OpenSpec.ofChange graftOnesWrong)

/-- 'bonsailaw24.GraftMeans': WHATEVER THE INPUT: true; the input reads as it did. -/
def graftMeansSpec : ChangeSpec := { name := "graftMeans", fn := fun _ => fun
  | [d1, d2, d3] => { results := [.lit (.bool true)], args := [d1, d2, d3] }
  | _ => none }
def graftMeansRow : OpenClaim := { program := "ytihkhhekjkadpaagreat", sum := "796bb35b2045ac161830a39626342dfb2da434fad1c776eaa41260498f5cac41", func := "bonsai/bonsailaw24.GraftMeans", spec := "graftMeans", inPlace := ["internal/abi.NoEscape", "internal/bytealg.IndexByteString", "internal/bytealg.IndexString"], unfollowed := true, recurses := true, named := ["internal/bytealg.MaxLen"], apart := false }
def GraftMeansSaid : Prop := graftMeansRow.holds Tryz.pinned (OpenSpec.ofChange graftMeansSpec)

/-- ITS FALSE NEIGHBOUR: 'it returns false'. Refute it at one input. -/
def graftMeansWrong : ChangeSpec := { name := "graftMeans", fn := fun _ => fun
  | [d1, d2, d3] => { results := [.lit (.bool false)], args := [d1, d2, d3] }
  | _ => none }
def GraftMeansWrongFalsely : Prop := graftMeansRow.holds Tryz.pinned (OpenSpec.ofChange graftMeansWrong)

/- THE SECOND FORM. 'bulk': how many values and letters a reading holds, each counted each time it is reached (what is shared counts as often as it is met; a slice's spare places count too). A statement '..UptoSaid' is the law's where the arguments, and the package variables that the reading takes, are together of bulk at most 1048576: NARROWER than '..Said'. Prove '..Said' where nothing that the law and all that it calls make is longer than what came in: it says more and counts as full. Else prove '..UptoSaid'. A law counts once. -/
mutual
def uptoBulk {H : Type} : DataW H → Nat
  | .lit (.string bytes) => bytes.length + 1
  | .lit _ => 1
  | .nil => 1
  | .ptr d => uptoBulk d + 1
  | .slice elems spare => uptoBulkAll elems + uptoBulkAll spare + 1
  | .agg parts => uptoBulkAll parts + 1
  | .iface _ d => uptoBulk d + 1
  | .map entries => uptoBulkEntries entries + 1
  | .held _ => 1
def uptoBulkAll {H : Type} : List (DataW H) → Nat
  | [] => 0
  | d :: r => uptoBulk d + uptoBulkAll r
def uptoBulkEntries {H : Type} : List (Lit × DataW H) → Nat
  | [] => 0
  | x :: r => uptoBulkEntry x + uptoBulkEntries r
def uptoBulkEntry {H : Type} : Lit × DataW H → Nat
  | (.string bytes, d) => bytes.length + uptoBulk d + 1
  | (_, d) => uptoBulk d + 1
 end
def uptoSmall : (H : Type) → List (DataW H) → Bool := fun _ ds => decide (uptoBulkAll ds ≤ 1048576)
def OpenSpec.upto (s : _root_.Go.ChangeSpec) : _root_.Go.OpenSpec := { _root_.Go.OpenSpec.ofChange s with cond := some uptoSmall }

/-- 'bonsailaw24.GraftTells', WHERE WHAT IT READS IS OF BULK AT MOST 1048576: true; the input reads as it did. -/
def graftTellsUptoRow : OpenClaim := { program := "ytihkhhekjkadpaagreat", sum := "796bb35b2045ac161830a39626342dfb2da434fad1c776eaa41260498f5cac41", func := "bonsai/bonsailaw24.GraftTells", spec := "graftTells", inPlace := ["internal/abi.NoEscape", "internal/bytealg.IndexByteString", "internal/bytealg.IndexString"], unfollowed := true, recurses := true, named := ["internal/bytealg.MaxLen"], apart := false, narrowed := true }
def GraftTellsUptoSaid : Prop := graftTellsUptoRow.holds Tryz.pinned (OpenSpec.upto graftTellsSpec)

/-- 'bonsailaw24.GraftKeeps', WHERE WHAT IT READS IS OF BULK AT MOST 1048576: true; the input reads as it did. -/
def graftKeepsUptoRow : OpenClaim := { program := "ytihkhhekjkadpaagreat", sum := "796bb35b2045ac161830a39626342dfb2da434fad1c776eaa41260498f5cac41", func := "bonsai/bonsailaw24.GraftKeeps", spec := "graftKeeps", inPlace := ["internal/abi.NoEscape", "internal/bytealg.IndexByteString", "internal/bytealg.IndexString"], unfollowed := true, recurses := true, named := ["internal/bytealg.MaxLen"], apart := false, narrowed := true }
def GraftKeepsUptoSaid : Prop := graftKeepsUptoRow.holds Tryz.pinned (OpenSpec.upto graftKeepsSpec)

/-- 'bonsailaw24.GraftFinds', WHERE WHAT IT READS IS OF BULK AT MOST 1048576: true; the input reads as it did. -/
def graftFindsUptoRow : OpenClaim := { program := "ytihkhhekjkadpaagreat", sum := "796bb35b2045ac161830a39626342dfb2da434fad1c776eaa41260498f5cac41", func := "bonsai/bonsailaw24.GraftFinds", spec := "graftFinds", inPlace := ["internal/abi.NoEscape", "internal/bytealg.IndexByteString", "internal/bytealg.IndexString"], unfollowed := true, recurses := true, named := ["internal/bytealg.MaxLen"], apart := false, narrowed := true }
def GraftFindsUptoSaid : Prop := graftFindsUptoRow.holds Tryz.pinned (OpenSpec.upto graftFindsSpec)

/-- 'bonsailaw24.GraftOnes', WHERE WHAT IT READS IS OF BULK AT MOST 1048576: true; the input reads as it did. -/
def graftOnesUptoRow : OpenClaim := { program := "ytihkhhekjkadpaagreat", sum := "796bb35b2045ac161830a39626342dfb2da434fad1c776eaa41260498f5cac41", func := "bonsai/bonsailaw24.GraftOnes", spec := "graftOnes", inPlace := ["internal/abi.NoEscape", "internal/bytealg.IndexByteString", "internal/bytealg.IndexString"], unfollowed := true, recurses := true, named := ["internal/bytealg.MaxLen"], apart := false, narrowed := true }
def GraftOnesUptoSaid : Prop := graftOnesUptoRow.holds Tryz.pinned (OpenSpec.upto graftOnesSpec)

/-- 'bonsailaw24.GraftMeans', WHERE WHAT IT READS IS OF BULK AT MOST 1048576: true; the input reads as it did. -/
def graftMeansUptoRow : OpenClaim := { program := "ytihkhhekjkadpaagreat", sum := "796bb35b2045ac161830a39626342dfb2da434fad1c776eaa41260498f5cac41", func := "bonsai/bonsailaw24.GraftMeans", spec := "graftMeans", inPlace := ["internal/abi.NoEscape", "internal/bytealg.IndexByteString", "internal/bytealg.IndexString"], unfollowed := true, recurses := true, named := ["internal/bytealg.MaxLen"], apart := false, narrowed := true }
def GraftMeansUptoSaid : Prop := graftMeansUptoRow.holds Tryz.pinned (OpenSpec.upto graftMeansSpec)

end Rows
end Go.Proofs.YtihkhhekjkadpaaGreat
