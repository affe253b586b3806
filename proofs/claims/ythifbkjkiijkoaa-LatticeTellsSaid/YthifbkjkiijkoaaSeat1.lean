/-
  Walks: instructions, types, methods of the statements' archives.
-/
import Derived.Test.YthifbkjkiijkoaaTree1
import Derived.Test.YthifbkjkiijkoaaTyp0
namespace Go.Proofs.Ythifbkjkiijkoaa
open Go.Ev Go.Ev.Wk
set_option linter.unusedVariables false
set_option linter.unusedSimpArgs false
variable {O : Old}


abbrev tyW (k : Int) (c : List UInt8) : Value := .agg #[.int .i64 k, str c]
abbrev insW (o n k : Int) (s c m d : List UInt8) : Value := .agg #[.int .i64 o, .int .i32 n, .int .i64 k, str s, str c, str m, str d]

set_option maxHeartbeats 8000000 in
set_option maxRecDepth 100000 in
theorem seatTyp_ok {H : Heap} {k : Int} : CallC TT O 41 [.int .i64 k] H fun v H' => v = tyW k [] ∧ Ext H H' := by
  refine call_pureM rfl rfl rfl rfl rfl ?_
  repeat (first | refine zr ?_ | (refine zn ?_; intro _))
  refine ⟨trivial, [_], ⟨look_agg 0 rfl rfl rfl rfl, trivial⟩, rfl⟩

set_option maxHeartbeats 8000000 in
set_option maxRecDepth 100000 in
theorem seatRef_ok {H : Heap} {s : List UInt8} : CallC TT O 68 [str s] H fun v H' => v = tyW 4 s ∧ Ext H H' := by
  refine call_pureM rfl rfl rfl rfl rfl ?_
  repeat (first | refine zr ?_ | (refine zn ?_; intro _))
  refine ⟨trivial, [_], ⟨look_agg 0 rfl rfl rfl rfl, trivial⟩, rfl⟩

set_option maxHeartbeats 8000000 in
set_option maxRecDepth 100000 in
theorem seatOne_ok {H : Heap} {o : Int} : CallC TT O 45 [.int .i64 o] H fun v H' => v = insW o 0 0 [] [] [] [] ∧ Ext H H' := by
  refine call_pureM rfl rfl rfl rfl rfl ?_
  repeat (first | refine zr ?_ | (refine zn ?_; intro _))
  refine ⟨trivial, [_], ⟨look_agg 0 rfl rfl rfl rfl, trivial⟩, rfl⟩

set_option maxHeartbeats 8000000 in
set_option maxRecDepth 100000 in
theorem seatNum_ok {H : Heap} {n : Int} : CallC TT O 64 [.int .i64 n] H fun v H' => v = insW 1 (IntKind.i32.wrap n) 0 [] [] [] [] ∧ Ext H H' := by
  refine call_pureM rfl rfl rfl rfl rfl ?_
  repeat (first | refine zr ?_ | (refine zn ?_; intro _))
  refine ⟨trivial, [_], ⟨look_agg 0 rfl rfl rfl rfl, trivial⟩, rfl⟩

set_option maxHeartbeats 8000000 in
set_option maxRecDepth 100000 in
theorem seatStr_ok {H : Heap} {s : List UInt8} : CallC TT O 65 [str s] H fun v H' => v = insW 2 0 0 s [] [] [] ∧ Ext H H' := by
  refine call_pureM rfl rfl rfl rfl rfl ?_
  repeat (first | refine zr ?_ | (refine zn ?_; intro _))
  refine ⟨trivial, [_], ⟨look_agg 0 rfl rfl rfl rfl, trivial⟩, rfl⟩

set_option maxHeartbeats 8000000 in
set_option maxRecDepth 100000 in
theorem seatAt_ok {H : Heap} {o k : Int} : CallC TT O 46 [.int .i64 o, .int .i64 k] H fun v H' => v = insW o 0 k [] [] [] [] ∧ Ext H H' := by
  refine call_pureM rfl rfl rfl rfl rfl ?_
  repeat (first | refine zr ?_ | (refine zn ?_; intro _))
  refine ⟨trivial, [_], ⟨look_agg 0 rfl rfl rfl rfl, trivial⟩, rfl⟩

set_option maxHeartbeats 8000000 in
set_option maxRecDepth 100000 in
theorem seatOf_ok {H : Heap} {o : Int} {c : List UInt8} : CallC TT O 44 [.int .i64 o, str c] H fun v H' => v = insW o 0 0 [] c [] [] ∧ Ext H H' := by
  refine call_pureM rfl rfl rfl rfl rfl ?_
  repeat (first | refine zr ?_ | (refine zn ?_; intro _))
  refine ⟨trivial, [_], ⟨look_agg 0 rfl rfl rfl rfl, trivial⟩, rfl⟩

set_option maxHeartbeats 8000000 in
set_option maxRecDepth 100000 in
theorem seatPart_ok {H : Heap} {o : Int} {c m : List UInt8} : CallC TT O 71 [.int .i64 o, str c, str m] H fun v H' => v = insW o 0 0 [] c m [] ∧ Ext H H' := by
  refine call_pureM rfl rfl rfl rfl rfl ?_
  repeat (first | refine zr ?_ | (refine zn ?_; intro _))
  refine ⟨trivial, [_], ⟨look_agg 0 rfl rfl rfl rfl, trivial⟩, rfl⟩

set_option maxHeartbeats 8000000 in
set_option maxRecDepth 100000 in
theorem seatCall_ok {H : Heap} {o : Int} {c m d : List UInt8} : CallC TT O 70 [.int .i64 o, str c, str m, str d] H fun v H' => v = insW o 0 0 [] c m d ∧ Ext H H' := by
  refine call_pureM rfl rfl rfl rfl rfl ?_
  repeat (first | refine zr ?_ | (refine zn ?_; intro _))
  refine ⟨trivial, [_], ⟨look_agg 0 rfl rfl rfl rfl, trivial⟩, rfl⟩

abbrev methW (nm : List UInt8) (pa : Option Addr) (pN pc : Nat) (tk : Int) (tc : List UInt8) (st : Bool) (lo : Int) (ca : Option Addr) (cN cc : Nat) : Value := .agg #[str nm, .slice pa pN pc, .int .i64 tk, str tc, .bool st, .bool false, .int .i64 lo, .slice ca cN cc, .slice none 0 0]

set_option maxHeartbeats 8000000 in
set_option maxRecDepth 100000 in
theorem seatMethod_ok {H : Heap} {nm : List UInt8} {pa : Option Addr} {pN pc : Nat} {tk : Int} {tc : List UInt8} {st : Bool} {lo : Int} {ca : Option Addr} {cN cc : Nat} :
    CallC TT O 43 [str nm, .slice pa pN pc, tyW tk tc, .bool st, .int .i64 lo, .slice ca cN cc] H fun v H' => v = methW nm pa pN pc tk tc st lo ca cN cc ∧ Ext H H' := by
  refine call_pureM rfl rfl rfl rfl rfl ?_
  repeat (first | refine zr ?_ | (refine zn ?_; intro _))
  refine ⟨trivial, [_], ⟨look_agg 0 rfl rfl rfl rfl, trivial⟩, rfl⟩

set_option maxHeartbeats 8000000 in
set_option maxRecDepth 100000 in
theorem seatClinit_ok {H : Heap} {s : List UInt8} : CallC TT O 42 [str s] H fun v H' => (∃ (ca : Option Addr) (cN cc : Nat), v = methW [99, 108, 105, 110, 105, 116] none 0 0 5 [] true 0 ca cN cc) ∧ Ext H H' := by
  refine call_exM rfl rfl rfl rfl rfl ?_
  repeat (first | refine zr ?_ | (refine zn ?_; intro _))
  refine ops_step rfl rfl rfl (step_call_pure rfl rfl rfl (fun H hs => seatTyp_ok) ?_)
  repeat (first | refine zr ?_ | (refine zn ?_; intro _))
  refine ops_step rfl rfl rfl (step_call_pure rfl rfl rfl (fun H hs => seatStr_ok) ?_)
  repeat (first | refine zr ?_ | (refine zn ?_; intro _))
  refine ops_step rfl rfl rfl (step_call_pure rfl rfl rfl (fun H hs => seatOne_ok) ?_)
  repeat (first | refine zr ?_ | (refine zn ?_; intro _))
  refine ops_step rfl rfl rfl (step_call_pure rfl rfl rfl (fun H hs => seatOne_ok) ?_)
  repeat (first | refine zr ?_ | (refine zn ?_; intro _))
  refine ops_step rfl rfl rfl (step_call_pure rfl rfl rfl (fun H hs => seatMethod_ok) ?_)
  repeat (first | refine zr ?_ | (refine zn ?_; intro _))
  refine ⟨trivial, [_], ⟨look_agg 1 rfl rfl rfl rfl, trivial⟩, _, _, _, rfl⟩
end Go.Proofs.Ythifbkjkiijkoaa

