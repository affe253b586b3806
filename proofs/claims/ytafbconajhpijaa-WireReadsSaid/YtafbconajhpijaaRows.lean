/-
  No cell of these rows narrows 'for every input' (looked for: loops, veiled, ifaces, maps, wideKeys, modest, calm, conditions, laid).
  DERIVED. THE GIVEN ROWS OF THIS SEAT. 8 by the template 'for every input the law returns true; each argument reads behind the call as it read before'; 0 by the template 'total and deterministic' (their statements: YtafbconajhpijaaTotals.lean).
  GIVEN WITH THE SEED: the statements are not yours to turn. If you find one false, say at which input.
  Laid BY PROGRAM, IN A SANDBOX (cutbox-rows.mjs): the forced cells as the released guide's own fill.sh prints them over the translation 5e05b52f221aa10c… (all of the seat's roots in one cut). By AI agents, Wed Nov 11 2026. No macro, syntax, notation, axiom, sorry.
-/
import Derived.Test.YtafbconajhpijaaChecked
import GoSem.Claim
import GoSem.ClaimJoined
import GoSem.ClaimMapViews
import Derived.JoinedTies
import Derived.KernelRfl
namespace Go.Proofs.Ytafbconajhpijaa
/- THE CELL 'sum', in the pinned program and in every row, IS THE sha256 OF THE DUMP (.gsa) THAT YtafbconajhpijaaProg.lean LOADS. Nothing in Lean hashes anything: it is a label: what it is worth is what the hold of that sum in a sandbox is worth. -/
noncomputable def Try.pinned : Pinned := { name := "ytafbconajhpijaa", sum := "5e05b52f221aa10cb361c84d56aeb5fe85e541b6170d628d6b6c39796daa7c1c", checked := Try.checked }
namespace Rows
def none {H : Type} : Left H := { results := [], args := [] }

/-- 'bonsailaw17.TraceTells': WHATEVER THE INPUT: true; the input reads as it did. -/
def traceTellsSpec : ChangeSpec := { name := "traceTells", fn := fun _ => fun
  | [d1, d2, d3, d4, d5, d6, d7] => { results := [.lit (.bool true)], args := [d1, d2, d3, d4, d5, d6, d7] }
  | _ => none }
def traceTellsRow : OpenClaim := { program := "ytafbconajhpijaa", sum := "5e05b52f221aa10cb361c84d56aeb5fe85e541b6170d628d6b6c39796daa7c1c", func := "bonsai/bonsailaw17.TraceTells", spec := "traceTells", apart := false }
def TraceTellsSaid : Prop := traceTellsRow.holds Try.pinned (OpenSpec.ofChange traceTellsSpec)

/-- ITS FALSE NEIGHBOUR: 'it returns false'. Refute it at one input. -/
def traceTellsWrong : ChangeSpec := { name := "traceTells", fn := fun _ => fun
  | [d1, d2, d3, d4, d5, d6, d7] => { results := [.lit (.bool false)], args := [d1, d2, d3, d4, d5, d6, d7] }
  | _ => none }
def TraceTellsWrongFalsely : Prop := traceTellsRow.holds Try.pinned (OpenSpec.ofChange traceTellsWrong)

/-- 'bonsailaw17.TraceBegins': WHATEVER THE INPUT: true; the input reads as it did. -/
def traceBeginsSpec : ChangeSpec := { name := "traceBegins", fn := fun _ => fun
  | [d1, d2, d3] => { results := [.lit (.bool true)], args := [d1, d2, d3] }
  | _ => none }
def traceBeginsRow : OpenClaim := { program := "ytafbconajhpijaa", sum := "5e05b52f221aa10cb361c84d56aeb5fe85e541b6170d628d6b6c39796daa7c1c", func := "bonsai/bonsailaw17.TraceBegins", spec := "traceBegins", apart := false }
def TraceBeginsSaid : Prop := traceBeginsRow.holds Try.pinned (OpenSpec.ofChange traceBeginsSpec)

/-- ITS FALSE NEIGHBOUR: 'it returns false'. Refute it at one input. -/
def traceBeginsWrong : ChangeSpec := { name := "traceBegins", fn := fun _ => fun
  | [d1, d2, d3] => { results := [.lit (.bool false)], args := [d1, d2, d3] }
  | _ => none }
def TraceBeginsWrongFalsely : Prop := traceBeginsRow.holds Try.pinned (OpenSpec.ofChange traceBeginsWrong)

/-- 'bonsailaw17.TraceOrder': WHATEVER THE INPUT: true; the input reads as it did. -/
def traceOrderSpec : ChangeSpec := { name := "traceOrder", fn := fun _ => fun
  | [d1, d2, d3, d4] => { results := [.lit (.bool true)], args := [d1, d2, d3, d4] }
  | _ => none }
def traceOrderRow : OpenClaim := { program := "ytafbconajhpijaa", sum := "5e05b52f221aa10cb361c84d56aeb5fe85e541b6170d628d6b6c39796daa7c1c", func := "bonsai/bonsailaw17.TraceOrder", spec := "traceOrder", apart := false }
def TraceOrderSaid : Prop := traceOrderRow.holds Try.pinned (OpenSpec.ofChange traceOrderSpec)

/-- ITS FALSE NEIGHBOUR: 'it returns false'. Refute it at one input. -/
def traceOrderWrong : ChangeSpec := { name := "traceOrder", fn := fun _ => fun
  | [d1, d2, d3, d4] => { results := [.lit (.bool false)], args := [d1, d2, d3, d4] }
  | _ => none }
def TraceOrderWrongFalsely : Prop := traceOrderRow.holds Try.pinned (OpenSpec.ofChange traceOrderWrong)

/-- 'bonsailaw1.WireReads': WHATEVER THE INPUT: true; the input reads as it did. -/
def wireReadsSpec : ChangeSpec := { name := "wireReads", fn := fun _ => fun
  | [d1, d2, d3, d4, d5] => { results := [.lit (.bool true)], args := [d1, d2, d3, d4, d5] }
  | _ => none }
def wireReadsRow : OpenClaim := { program := "ytafbconajhpijaa", sum := "5e05b52f221aa10cb361c84d56aeb5fe85e541b6170d628d6b6c39796daa7c1c", func := "bonsai/bonsailaw1.WireReads", spec := "wireReads", apart := false }
def WireReadsSaid : Prop := wireReadsRow.holds Try.pinned (OpenSpec.ofChange wireReadsSpec)

/-- ITS FALSE NEIGHBOUR: 'it returns false'. Refute it at one input. -/
def wireReadsWrong : ChangeSpec := { name := "wireReads", fn := fun _ => fun
  | [d1, d2, d3, d4, d5] => { results := [.lit (.bool false)], args := [d1, d2, d3, d4, d5] }
  | _ => none }
def WireReadsWrongFalsely : Prop := wireReadsRow.holds Try.pinned (OpenSpec.ofChange wireReadsWrong)

/-- 'bonsailaw1.WireBack': WHATEVER THE INPUT: true; the input reads as it did. -/
def wireBackSpec : ChangeSpec := { name := "wireBack", fn := fun _ => fun
  | [d1, d2, d3] => { results := [.lit (.bool true)], args := [d1, d2, d3] }
  | _ => none }
def wireBackRow : OpenClaim := { program := "ytafbconajhpijaa", sum := "5e05b52f221aa10cb361c84d56aeb5fe85e541b6170d628d6b6c39796daa7c1c", func := "bonsai/bonsailaw1.WireBack", spec := "wireBack", apart := false }
def WireBackSaid : Prop := wireBackRow.holds Try.pinned (OpenSpec.ofChange wireBackSpec)

/-- ITS FALSE NEIGHBOUR: 'it returns false'. Refute it at one input. -/
def wireBackWrong : ChangeSpec := { name := "wireBack", fn := fun _ => fun
  | [d1, d2, d3] => { results := [.lit (.bool false)], args := [d1, d2, d3] }
  | _ => none }
def WireBackWrongFalsely : Prop := wireBackRow.holds Try.pinned (OpenSpec.ofChange wireBackWrong)

/-- 'bonsailaw1.WireForms': WHATEVER THE INPUT: true; the input reads as it did. -/
def wireFormsSpec : ChangeSpec := { name := "wireForms", fn := fun _ => fun
  | [d1, d2, d3] => { results := [.lit (.bool true)], args := [d1, d2, d3] }
  | _ => none }
def wireFormsRow : OpenClaim := { program := "ytafbconajhpijaa", sum := "5e05b52f221aa10cb361c84d56aeb5fe85e541b6170d628d6b6c39796daa7c1c", func := "bonsai/bonsailaw1.WireForms", spec := "wireForms", apart := false }
def WireFormsSaid : Prop := wireFormsRow.holds Try.pinned (OpenSpec.ofChange wireFormsSpec)

/-- ITS FALSE NEIGHBOUR: 'it returns false'. Refute it at one input. -/
def wireFormsWrong : ChangeSpec := { name := "wireForms", fn := fun _ => fun
  | [d1, d2, d3] => { results := [.lit (.bool false)], args := [d1, d2, d3] }
  | _ => none }
def WireFormsWrongFalsely : Prop := wireFormsRow.holds Try.pinned (OpenSpec.ofChange wireFormsWrong)

/-- 'bonsailaw1.WireMost': WHATEVER THE INPUT: true; the input reads as it did. -/
def wireMostSpec : ChangeSpec := { name := "wireMost", fn := fun _ => fun
  | [d1, d2] => { results := [.lit (.bool true)], args := [d1, d2] }
  | _ => none }
def wireMostRow : OpenClaim := { program := "ytafbconajhpijaa", sum := "5e05b52f221aa10cb361c84d56aeb5fe85e541b6170d628d6b6c39796daa7c1c", func := "bonsai/bonsailaw1.WireMost", spec := "wireMost", apart := false }
def WireMostSaid : Prop := wireMostRow.holds Try.pinned (OpenSpec.ofChange wireMostSpec)

/-- ITS FALSE NEIGHBOUR: 'it returns false'. Refute it at one input. -/
def wireMostWrong : ChangeSpec := { name := "wireMost", fn := fun _ => fun
  | [d1, d2] => { results := [.lit (.bool false)], args := [d1, d2] }
  | _ => none }
def WireMostWrongFalsely : Prop := wireMostRow.holds Try.pinned (OpenSpec.ofChange wireMostWrong)

/-- 'bonsailaw1.WireStops': WHATEVER THE INPUT: true; the input reads as it did. -/
def wireStopsSpec : ChangeSpec := { name := "wireStops", fn := fun _ => fun
  | [d1, d2] => { results := [.lit (.bool true)], args := [d1, d2] }
  | _ => none }
def wireStopsRow : OpenClaim := { program := "ytafbconajhpijaa", sum := "5e05b52f221aa10cb361c84d56aeb5fe85e541b6170d628d6b6c39796daa7c1c", func := "bonsai/bonsailaw1.WireStops", spec := "wireStops", apart := false }
def WireStopsSaid : Prop := wireStopsRow.holds Try.pinned (OpenSpec.ofChange wireStopsSpec)

/-- ITS FALSE NEIGHBOUR: 'it returns false'. Refute it at one input. -/
def wireStopsWrong : ChangeSpec := { name := "wireStops", fn := fun _ => fun
  | [d1, d2] => { results := [.lit (.bool false)], args := [d1, d2] }
  | _ => none }
def WireStopsWrongFalsely : Prop := wireStopsRow.holds Try.pinned (OpenSpec.ofChange wireStopsWrong)

/- THE SECOND FORM. 'bulk': how many values and letters a reading holds, each counted each time it is reached (what is shared counts as often as it is met; a slice's spare places count too). A statement '..UptoSaid' is the law's where the arguments, and the package variables that the reading takes, are together of bulk at most 1048576: NARROWER than '..Said'. Prove '..Said' where nothing that the law and all that it calls make is longer than what came in: it says more and counts as full. Else prove '..UptoSaid'. A law counts once. -/
mutual
def uptoBulk {H : Type} : DataW H → Nat
  | .lit (.string bytes) => bytes.length + 1
  | .lit _ => 1
  | .nil => 1
  | .ptr d => uptoBulk d + 1
  | .slice elems spare => uptoBulkAll elems + uptoBulkAll spare + 1
  | .agg parts => uptoBulkAll parts + 1
  | .iface _ d => uptoBulk d + 1
  | .map entries => uptoBulkEntries entries + 1
  | .held _ => 1
def uptoBulkAll {H : Type} : List (DataW H) → Nat
  | [] => 0
  | d :: r => uptoBulk d + uptoBulkAll r
def uptoBulkEntries {H : Type} : List (Lit × DataW H) → Nat
  | [] => 0
  | x :: r => uptoBulkEntry x + uptoBulkEntries r
def uptoBulkEntry {H : Type} : Lit × DataW H → Nat
  | (.string bytes, d) => bytes.length + uptoBulk d + 1
  | (_, d) => uptoBulk d + 1
 end
def uptoSmall : (H : Type) → List (DataW H) → Bool := fun _ ds => decide (uptoBulkAll ds ≤ 1048576)
def OpenSpec.upto (s : _root_.Go.ChangeSpec) : _root_.Go.OpenSpec := { _root_.Go.OpenSpec.ofChange s with cond := some uptoSmall }

/-- 'bonsailaw17.TraceTells', WHERE WHAT IT READS IS OF BULK AT MOST 1048576: true; the input reads as it did. -/
def traceTellsUptoRow : OpenClaim := { program := "ytafbconajhpijaa", sum := "5e05b52f221aa10cb361c84d56aeb5fe85e541b6170d628d6b6c39796daa7c1c", func := "bonsai/bonsailaw17.TraceTells", spec := "traceTells", apart := false, narrowed := true }
def TraceTellsUptoSaid : Prop := traceTellsUptoRow.holds Try.pinned (OpenSpec.upto traceTellsSpec)

/-- 'bonsailaw17.TraceBegins', WHERE WHAT IT READS IS OF BULK AT MOST 1048576: true; the input reads as it did. -/
def traceBeginsUptoRow : OpenClaim := { program := "ytafbconajhpijaa", sum := "5e05b52f221aa10cb361c84d56aeb5fe85e541b6170d628d6b6c39796daa7c1c", func := "bonsai/bonsailaw17.TraceBegins", spec := "traceBegins", apart := false, narrowed := true }
def TraceBeginsUptoSaid : Prop := traceBeginsUptoRow.holds Try.pinned (OpenSpec.upto traceBeginsSpec)

/-- 'bonsailaw17.TraceOrder', WHERE WHAT IT READS IS OF BULK AT MOST 1048576: true; the input reads as it did. -/
def traceOrderUptoRow : OpenClaim := { program := "ytafbconajhpijaa", sum := "5e05b52f221aa10cb361c84d56aeb5fe85e541b6170d628d6b6c39796daa7c1c", func := "bonsai/bonsailaw17.TraceOrder", spec := "traceOrder", apart := false, narrowed := true }
def TraceOrderUptoSaid : Prop := traceOrderUptoRow.holds Try.pinned (OpenSpec.upto traceOrderSpec)

/-- 'bonsailaw1.WireReads', WHERE WHAT IT READS IS OF BULK AT MOST 1048576: true; the input reads as it did. -/
def wireReadsUptoRow : OpenClaim := { program := "ytafbconajhpijaa", sum := "5e05b52f221aa10cb361c84d56aeb5fe85e541b6170d628d6b6c39796daa7c1c", func := "bonsai/bonsailaw1.WireReads", spec := "wireReads", apart := false, narrowed := true }
def WireReadsUptoSaid : Prop := wireReadsUptoRow.holds Try.pinned (OpenSpec.upto wireReadsSpec)

/-- 'bonsailaw1.WireBack', WHERE WHAT IT READS IS OF BULK AT MOST 1048576: true; the input reads as it did. -/
def wireBackUptoRow : OpenClaim := { program := "ytafbconajhpijaa", sum := "5e05b52f221aa10cb361c84d56aeb5fe85e541b6170d628d6b6c39796daa7c1c", func := "bonsai/bonsailaw1.WireBack", spec := "wireBack", apart := false, narrowed := true }
def WireBackUptoSaid : Prop := wireBackUptoRow.holds Try.pinned (OpenSpec.upto wireBackSpec)

/-- 'bonsailaw1.WireForms', WHERE WHAT IT READS IS OF BULK AT MOST 1048576: true; the input reads as it did. -/
def wireFormsUptoRow : OpenClaim := { program := "ytafbconajhpijaa", sum := "5e05b52f221aa10cb361c84d56aeb5fe85e541b6170d628d6b6c39796daa7c1c", func := "bonsai/bonsailaw1.WireForms", spec := "wireForms", apart := false, narrowed := true }
def WireFormsUptoSaid : Prop := wireFormsUptoRow.holds Try.pinned (OpenSpec.upto wireFormsSpec)

/-- 'bonsailaw1.WireMost', WHERE WHAT IT READS IS OF BULK AT MOST 1048576: true; the input reads as it did. -/
def wireMostUptoRow : OpenClaim := { program := "ytafbconajhpijaa", sum := "5e05b52f221aa10cb361c84d56aeb5fe85e541b6170d628d6b6c39796daa7c1c", func := "bonsai/bonsailaw1.WireMost", spec := "wireMost", apart := false, narrowed := true }
def WireMostUptoSaid : Prop := wireMostUptoRow.holds Try.pinned (OpenSpec.upto wireMostSpec)

/-- 'bonsailaw1.WireStops', WHERE WHAT IT READS IS OF BULK AT MOST 1048576: true; the input reads as it did. -/
def wireStopsUptoRow : OpenClaim := { program := "ytafbconajhpijaa", sum := "5e05b52f221aa10cb361c84d56aeb5fe85e541b6170d628d6b6c39796daa7c1c", func := "bonsai/bonsailaw1.WireStops", spec := "wireStops", apart := false, narrowed := true }
def WireStopsUptoSaid : Prop := wireStopsUptoRow.holds Try.pinned (OpenSpec.upto wireStopsSpec)

end Rows
end Go.Proofs.Ytafbconajhpijaa
