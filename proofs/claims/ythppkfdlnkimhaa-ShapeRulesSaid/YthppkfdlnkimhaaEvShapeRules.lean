/-
  'bonsai/bonsailaw10.ShapeRules' is true, whatever the input. No condition.
-/
import Derived.Test.YthppkfdlnkimhaaEvTab
import Derived.OpenShut
namespace Go.Proofs.Ythppkfdlnkimhaa.shapeRules
open Go.Ev Go.ChangeShapes Go.WideShapes Go.ChangeAt Go.RowKit
set_option linter.unusedVariables false
set_option linter.unusedSimpArgs false

theorem c_0_0_0 (O : Addr → Option Value) : (allB 2 fun i3 => (allB 4 fun i4 => isTrue (evalCallF (tabOf fs ts es ps) O 100000 60 3 [.complex .f32 4 0, .complex .f32 4 0, .complex .f32 5 0, .bool (Nat.beq i3 1), .complex .f32 4 i4] .empty))) = true := by kernel_rfl
theorem c_0_0_1 (O : Addr → Option Value) : (allB 2 fun i3 => (allB 4 fun i4 => isTrue (evalCallF (tabOf fs ts es ps) O 100000 60 3 [.complex .f32 4 0, .complex .f32 4 0, .complex .f32 5 1, .bool (Nat.beq i3 1), .complex .f32 4 i4] .empty))) = true := by kernel_rfl
theorem c_0_0_2 (O : Addr → Option Value) : (allB 2 fun i3 => (allB 4 fun i4 => isTrue (evalCallF (tabOf fs ts es ps) O 100000 60 3 [.complex .f32 4 0, .complex .f32 4 0, .complex .f32 5 2, .bool (Nat.beq i3 1), .complex .f32 4 i4] .empty))) = true := by kernel_rfl
theorem c_0_0_3 (O : Addr → Option Value) : (allB 2 fun i3 => (allB 4 fun i4 => isTrue (evalCallF (tabOf fs ts es ps) O 100000 60 3 [.complex .f32 4 0, .complex .f32 4 0, .complex .f32 5 3, .bool (Nat.beq i3 1), .complex .f32 4 i4] .empty))) = true := by kernel_rfl
theorem c_0_0_4 (O : Addr → Option Value) : (allB 2 fun i3 => (allB 4 fun i4 => isTrue (evalCallF (tabOf fs ts es ps) O 100000 60 3 [.complex .f32 4 0, .complex .f32 4 0, .complex .f32 5 4, .bool (Nat.beq i3 1), .complex .f32 4 i4] .empty))) = true := by kernel_rfl
theorem c_0_1_0 (O : Addr → Option Value) : (allB 2 fun i3 => (allB 4 fun i4 => isTrue (evalCallF (tabOf fs ts es ps) O 100000 60 3 [.complex .f32 4 0, .complex .f32 4 1, .complex .f32 5 0, .bool (Nat.beq i3 1), .complex .f32 4 i4] .empty))) = true := by kernel_rfl
theorem c_0_1_1 (O : Addr → Option Value) : (allB 2 fun i3 => (allB 4 fun i4 => isTrue (evalCallF (tabOf fs ts es ps) O 100000 60 3 [.complex .f32 4 0, .complex .f32 4 1, .complex .f32 5 1, .bool (Nat.beq i3 1), .complex .f32 4 i4] .empty))) = true := by kernel_rfl
theorem c_0_1_2 (O : Addr → Option Value) : (allB 2 fun i3 => (allB 4 fun i4 => isTrue (evalCallF (tabOf fs ts es ps) O 100000 60 3 [.complex .f32 4 0, .complex .f32 4 1, .complex .f32 5 2, .bool (Nat.beq i3 1), .complex .f32 4 i4] .empty))) = true := by kernel_rfl
theorem c_0_1_3 (O : Addr → Option Value) : (allB 2 fun i3 => (allB 4 fun i4 => isTrue (evalCallF (tabOf fs ts es ps) O 100000 60 3 [.complex .f32 4 0, .complex .f32 4 1, .complex .f32 5 3, .bool (Nat.beq i3 1), .complex .f32 4 i4] .empty))) = true := by kernel_rfl
theorem c_0_1_4 (O : Addr → Option Value) : (allB 2 fun i3 => (allB 4 fun i4 => isTrue (evalCallF (tabOf fs ts es ps) O 100000 60 3 [.complex .f32 4 0, .complex .f32 4 1, .complex .f32 5 4, .bool (Nat.beq i3 1), .complex .f32 4 i4] .empty))) = true := by kernel_rfl
theorem c_0_2_0 (O : Addr → Option Value) : (allB 2 fun i3 => (allB 4 fun i4 => isTrue (evalCallF (tabOf fs ts es ps) O 100000 60 3 [.complex .f32 4 0, .complex .f32 4 2, .complex .f32 5 0, .bool (Nat.beq i3 1), .complex .f32 4 i4] .empty))) = true := by kernel_rfl
theorem c_0_2_1 (O : Addr → Option Value) : (allB 2 fun i3 => (allB 4 fun i4 => isTrue (evalCallF (tabOf fs ts es ps) O 100000 60 3 [.complex .f32 4 0, .complex .f32 4 2, .complex .f32 5 1, .bool (Nat.beq i3 1), .complex .f32 4 i4] .empty))) = true := by kernel_rfl
theorem c_0_2_2 (O : Addr → Option Value) : (allB 2 fun i3 => (allB 4 fun i4 => isTrue (evalCallF (tabOf fs ts es ps) O 100000 60 3 [.complex .f32 4 0, .complex .f32 4 2, .complex .f32 5 2, .bool (Nat.beq i3 1), .complex .f32 4 i4] .empty))) = true := by kernel_rfl
theorem c_0_2_3 (O : Addr → Option Value) : (allB 2 fun i3 => (allB 4 fun i4 => isTrue (evalCallF (tabOf fs ts es ps) O 100000 60 3 [.complex .f32 4 0, .complex .f32 4 2, .complex .f32 5 3, .bool (Nat.beq i3 1), .complex .f32 4 i4] .empty))) = true := by kernel_rfl
theorem c_0_2_4 (O : Addr → Option Value) : (allB 2 fun i3 => (allB 4 fun i4 => isTrue (evalCallF (tabOf fs ts es ps) O 100000 60 3 [.complex .f32 4 0, .complex .f32 4 2, .complex .f32 5 4, .bool (Nat.beq i3 1), .complex .f32 4 i4] .empty))) = true := by kernel_rfl
theorem c_0_3_0 (O : Addr → Option Value) : (allB 2 fun i3 => (allB 4 fun i4 => isTrue (evalCallF (tabOf fs ts es ps) O 100000 60 3 [.complex .f32 4 0, .complex .f32 4 3, .complex .f32 5 0, .bool (Nat.beq i3 1), .complex .f32 4 i4] .empty))) = true := by kernel_rfl
theorem c_0_3_1 (O : Addr → Option Value) : (allB 2 fun i3 => (allB 4 fun i4 => isTrue (evalCallF (tabOf fs ts es ps) O 100000 60 3 [.complex .f32 4 0, .complex .f32 4 3, .complex .f32 5 1, .bool (Nat.beq i3 1), .complex .f32 4 i4] .empty))) = true := by kernel_rfl
theorem c_0_3_2 (O : Addr → Option Value) : (allB 2 fun i3 => (allB 4 fun i4 => isTrue (evalCallF (tabOf fs ts es ps) O 100000 60 3 [.complex .f32 4 0, .complex .f32 4 3, .complex .f32 5 2, .bool (Nat.beq i3 1), .complex .f32 4 i4] .empty))) = true := by kernel_rfl
theorem c_0_3_3 (O : Addr → Option Value) : (allB 2 fun i3 => (allB 4 fun i4 => isTrue (evalCallF (tabOf fs ts es ps) O 100000 60 3 [.complex .f32 4 0, .complex .f32 4 3, .complex .f32 5 3, .bool (Nat.beq i3 1), .complex .f32 4 i4] .empty))) = true := by kernel_rfl
theorem c_0_3_4 (O : Addr → Option Value) : (allB 2 fun i3 => (allB 4 fun i4 => isTrue (evalCallF (tabOf fs ts es ps) O 100000 60 3 [.complex .f32 4 0, .complex .f32 4 3, .complex .f32 5 4, .bool (Nat.beq i3 1), .complex .f32 4 i4] .empty))) = true := by kernel_rfl
theorem c_1_0_0 (O : Addr → Option Value) : (allB 2 fun i3 => (allB 4 fun i4 => isTrue (evalCallF (tabOf fs ts es ps) O 100000 60 3 [.complex .f32 4 1, .complex .f32 4 0, .complex .f32 5 0, .bool (Nat.beq i3 1), .complex .f32 4 i4] .empty))) = true := by kernel_rfl
theorem c_1_0_1 (O : Addr → Option Value) : (allB 2 fun i3 => (allB 4 fun i4 => isTrue (evalCallF (tabOf fs ts es ps) O 100000 60 3 [.complex .f32 4 1, .complex .f32 4 0, .complex .f32 5 1, .bool (Nat.beq i3 1), .complex .f32 4 i4] .empty))) = true := by kernel_rfl
theorem c_1_0_2 (O : Addr → Option Value) : (allB 2 fun i3 => (allB 4 fun i4 => isTrue (evalCallF (tabOf fs ts es ps) O 100000 60 3 [.complex .f32 4 1, .complex .f32 4 0, .complex .f32 5 2, .bool (Nat.beq i3 1), .complex .f32 4 i4] .empty))) = true := by kernel_rfl
theorem c_1_0_3 (O : Addr → Option Value) : (allB 2 fun i3 => (allB 4 fun i4 => isTrue (evalCallF (tabOf fs ts es ps) O 100000 60 3 [.complex .f32 4 1, .complex .f32 4 0, .complex .f32 5 3, .bool (Nat.beq i3 1), .complex .f32 4 i4] .empty))) = true := by kernel_rfl
theorem c_1_0_4 (O : Addr → Option Value) : (allB 2 fun i3 => (allB 4 fun i4 => isTrue (evalCallF (tabOf fs ts es ps) O 100000 60 3 [.complex .f32 4 1, .complex .f32 4 0, .complex .f32 5 4, .bool (Nat.beq i3 1), .complex .f32 4 i4] .empty))) = true := by kernel_rfl
theorem c_1_1_0 (O : Addr → Option Value) : (allB 2 fun i3 => (allB 4 fun i4 => isTrue (evalCallF (tabOf fs ts es ps) O 100000 60 3 [.complex .f32 4 1, .complex .f32 4 1, .complex .f32 5 0, .bool (Nat.beq i3 1), .complex .f32 4 i4] .empty))) = true := by kernel_rfl
theorem c_1_1_1 (O : Addr → Option Value) : (allB 2 fun i3 => (allB 4 fun i4 => isTrue (evalCallF (tabOf fs ts es ps) O 100000 60 3 [.complex .f32 4 1, .complex .f32 4 1, .complex .f32 5 1, .bool (Nat.beq i3 1), .complex .f32 4 i4] .empty))) = true := by kernel_rfl
theorem c_1_1_2 (O : Addr → Option Value) : (allB 2 fun i3 => (allB 4 fun i4 => isTrue (evalCallF (tabOf fs ts es ps) O 100000 60 3 [.complex .f32 4 1, .complex .f32 4 1, .complex .f32 5 2, .bool (Nat.beq i3 1), .complex .f32 4 i4] .empty))) = true := by kernel_rfl
theorem c_1_1_3 (O : Addr → Option Value) : (allB 2 fun i3 => (allB 4 fun i4 => isTrue (evalCallF (tabOf fs ts es ps) O 100000 60 3 [.complex .f32 4 1, .complex .f32 4 1, .complex .f32 5 3, .bool (Nat.beq i3 1), .complex .f32 4 i4] .empty))) = true := by kernel_rfl
theorem c_1_1_4 (O : Addr → Option Value) : (allB 2 fun i3 => (allB 4 fun i4 => isTrue (evalCallF (tabOf fs ts es ps) O 100000 60 3 [.complex .f32 4 1, .complex .f32 4 1, .complex .f32 5 4, .bool (Nat.beq i3 1), .complex .f32 4 i4] .empty))) = true := by kernel_rfl
theorem c_1_2_0 (O : Addr → Option Value) : (allB 2 fun i3 => (allB 4 fun i4 => isTrue (evalCallF (tabOf fs ts es ps) O 100000 60 3 [.complex .f32 4 1, .complex .f32 4 2, .complex .f32 5 0, .bool (Nat.beq i3 1), .complex .f32 4 i4] .empty))) = true := by kernel_rfl
theorem c_1_2_1 (O : Addr → Option Value) : (allB 2 fun i3 => (allB 4 fun i4 => isTrue (evalCallF (tabOf fs ts es ps) O 100000 60 3 [.complex .f32 4 1, .complex .f32 4 2, .complex .f32 5 1, .bool (Nat.beq i3 1), .complex .f32 4 i4] .empty))) = true := by kernel_rfl
theorem c_1_2_2 (O : Addr → Option Value) : (allB 2 fun i3 => (allB 4 fun i4 => isTrue (evalCallF (tabOf fs ts es ps) O 100000 60 3 [.complex .f32 4 1, .complex .f32 4 2, .complex .f32 5 2, .bool (Nat.beq i3 1), .complex .f32 4 i4] .empty))) = true := by kernel_rfl
theorem c_1_2_3 (O : Addr → Option Value) : (allB 2 fun i3 => (allB 4 fun i4 => isTrue (evalCallF (tabOf fs ts es ps) O 100000 60 3 [.complex .f32 4 1, .complex .f32 4 2, .complex .f32 5 3, .bool (Nat.beq i3 1), .complex .f32 4 i4] .empty))) = true := by kernel_rfl
theorem c_1_2_4 (O : Addr → Option Value) : (allB 2 fun i3 => (allB 4 fun i4 => isTrue (evalCallF (tabOf fs ts es ps) O 100000 60 3 [.complex .f32 4 1, .complex .f32 4 2, .complex .f32 5 4, .bool (Nat.beq i3 1), .complex .f32 4 i4] .empty))) = true := by kernel_rfl
theorem c_1_3_0 (O : Addr → Option Value) : (allB 2 fun i3 => (allB 4 fun i4 => isTrue (evalCallF (tabOf fs ts es ps) O 100000 60 3 [.complex .f32 4 1, .complex .f32 4 3, .complex .f32 5 0, .bool (Nat.beq i3 1), .complex .f32 4 i4] .empty))) = true := by kernel_rfl
theorem c_1_3_1 (O : Addr → Option Value) : (allB 2 fun i3 => (allB 4 fun i4 => isTrue (evalCallF (tabOf fs ts es ps) O 100000 60 3 [.complex .f32 4 1, .complex .f32 4 3, .complex .f32 5 1, .bool (Nat.beq i3 1), .complex .f32 4 i4] .empty))) = true := by kernel_rfl
theorem c_1_3_2 (O : Addr → Option Value) : (allB 2 fun i3 => (allB 4 fun i4 => isTrue (evalCallF (tabOf fs ts es ps) O 100000 60 3 [.complex .f32 4 1, .complex .f32 4 3, .complex .f32 5 2, .bool (Nat.beq i3 1), .complex .f32 4 i4] .empty))) = true := by kernel_rfl
theorem c_1_3_3 (O : Addr → Option Value) : (allB 2 fun i3 => (allB 4 fun i4 => isTrue (evalCallF (tabOf fs ts es ps) O 100000 60 3 [.complex .f32 4 1, .complex .f32 4 3, .complex .f32 5 3, .bool (Nat.beq i3 1), .complex .f32 4 i4] .empty))) = true := by kernel_rfl
theorem c_1_3_4 (O : Addr → Option Value) : (allB 2 fun i3 => (allB 4 fun i4 => isTrue (evalCallF (tabOf fs ts es ps) O 100000 60 3 [.complex .f32 4 1, .complex .f32 4 3, .complex .f32 5 4, .bool (Nat.beq i3 1), .complex .f32 4 i4] .empty))) = true := by kernel_rfl
theorem c_2_0_0 (O : Addr → Option Value) : (allB 2 fun i3 => (allB 4 fun i4 => isTrue (evalCallF (tabOf fs ts es ps) O 100000 60 3 [.complex .f32 4 2, .complex .f32 4 0, .complex .f32 5 0, .bool (Nat.beq i3 1), .complex .f32 4 i4] .empty))) = true := by kernel_rfl
theorem c_2_0_1 (O : Addr → Option Value) : (allB 2 fun i3 => (allB 4 fun i4 => isTrue (evalCallF (tabOf fs ts es ps) O 100000 60 3 [.complex .f32 4 2, .complex .f32 4 0, .complex .f32 5 1, .bool (Nat.beq i3 1), .complex .f32 4 i4] .empty))) = true := by kernel_rfl
theorem c_2_0_2 (O : Addr → Option Value) : (allB 2 fun i3 => (allB 4 fun i4 => isTrue (evalCallF (tabOf fs ts es ps) O 100000 60 3 [.complex .f32 4 2, .complex .f32 4 0, .complex .f32 5 2, .bool (Nat.beq i3 1), .complex .f32 4 i4] .empty))) = true := by kernel_rfl
theorem c_2_0_3 (O : Addr → Option Value) : (allB 2 fun i3 => (allB 4 fun i4 => isTrue (evalCallF (tabOf fs ts es ps) O 100000 60 3 [.complex .f32 4 2, .complex .f32 4 0, .complex .f32 5 3, .bool (Nat.beq i3 1), .complex .f32 4 i4] .empty))) = true := by kernel_rfl
theorem c_2_0_4 (O : Addr → Option Value) : (allB 2 fun i3 => (allB 4 fun i4 => isTrue (evalCallF (tabOf fs ts es ps) O 100000 60 3 [.complex .f32 4 2, .complex .f32 4 0, .complex .f32 5 4, .bool (Nat.beq i3 1), .complex .f32 4 i4] .empty))) = true := by kernel_rfl
theorem c_2_1_0 (O : Addr → Option Value) : (allB 2 fun i3 => (allB 4 fun i4 => isTrue (evalCallF (tabOf fs ts es ps) O 100000 60 3 [.complex .f32 4 2, .complex .f32 4 1, .complex .f32 5 0, .bool (Nat.beq i3 1), .complex .f32 4 i4] .empty))) = true := by kernel_rfl
theorem c_2_1_1 (O : Addr → Option Value) : (allB 2 fun i3 => (allB 4 fun i4 => isTrue (evalCallF (tabOf fs ts es ps) O 100000 60 3 [.complex .f32 4 2, .complex .f32 4 1, .complex .f32 5 1, .bool (Nat.beq i3 1), .complex .f32 4 i4] .empty))) = true := by kernel_rfl
theorem c_2_1_2 (O : Addr → Option Value) : (allB 2 fun i3 => (allB 4 fun i4 => isTrue (evalCallF (tabOf fs ts es ps) O 100000 60 3 [.complex .f32 4 2, .complex .f32 4 1, .complex .f32 5 2, .bool (Nat.beq i3 1), .complex .f32 4 i4] .empty))) = true := by kernel_rfl
theorem c_2_1_3 (O : Addr → Option Value) : (allB 2 fun i3 => (allB 4 fun i4 => isTrue (evalCallF (tabOf fs ts es ps) O 100000 60 3 [.complex .f32 4 2, .complex .f32 4 1, .complex .f32 5 3, .bool (Nat.beq i3 1), .complex .f32 4 i4] .empty))) = true := by kernel_rfl
theorem c_2_1_4 (O : Addr → Option Value) : (allB 2 fun i3 => (allB 4 fun i4 => isTrue (evalCallF (tabOf fs ts es ps) O 100000 60 3 [.complex .f32 4 2, .complex .f32 4 1, .complex .f32 5 4, .bool (Nat.beq i3 1), .complex .f32 4 i4] .empty))) = true := by kernel_rfl
theorem c_2_2_0 (O : Addr → Option Value) : (allB 2 fun i3 => (allB 4 fun i4 => isTrue (evalCallF (tabOf fs ts es ps) O 100000 60 3 [.complex .f32 4 2, .complex .f32 4 2, .complex .f32 5 0, .bool (Nat.beq i3 1), .complex .f32 4 i4] .empty))) = true := by kernel_rfl
theorem c_2_2_1 (O : Addr → Option Value) : (allB 2 fun i3 => (allB 4 fun i4 => isTrue (evalCallF (tabOf fs ts es ps) O 100000 60 3 [.complex .f32 4 2, .complex .f32 4 2, .complex .f32 5 1, .bool (Nat.beq i3 1), .complex .f32 4 i4] .empty))) = true := by kernel_rfl
theorem c_2_2_2 (O : Addr → Option Value) : (allB 2 fun i3 => (allB 4 fun i4 => isTrue (evalCallF (tabOf fs ts es ps) O 100000 60 3 [.complex .f32 4 2, .complex .f32 4 2, .complex .f32 5 2, .bool (Nat.beq i3 1), .complex .f32 4 i4] .empty))) = true := by kernel_rfl
theorem c_2_2_3 (O : Addr → Option Value) : (allB 2 fun i3 => (allB 4 fun i4 => isTrue (evalCallF (tabOf fs ts es ps) O 100000 60 3 [.complex .f32 4 2, .complex .f32 4 2, .complex .f32 5 3, .bool (Nat.beq i3 1), .complex .f32 4 i4] .empty))) = true := by kernel_rfl
theorem c_2_2_4 (O : Addr → Option Value) : (allB 2 fun i3 => (allB 4 fun i4 => isTrue (evalCallF (tabOf fs ts es ps) O 100000 60 3 [.complex .f32 4 2, .complex .f32 4 2, .complex .f32 5 4, .bool (Nat.beq i3 1), .complex .f32 4 i4] .empty))) = true := by kernel_rfl
theorem c_2_3_0 (O : Addr → Option Value) : (allB 2 fun i3 => (allB 4 fun i4 => isTrue (evalCallF (tabOf fs ts es ps) O 100000 60 3 [.complex .f32 4 2, .complex .f32 4 3, .complex .f32 5 0, .bool (Nat.beq i3 1), .complex .f32 4 i4] .empty))) = true := by kernel_rfl
theorem c_2_3_1 (O : Addr → Option Value) : (allB 2 fun i3 => (allB 4 fun i4 => isTrue (evalCallF (tabOf fs ts es ps) O 100000 60 3 [.complex .f32 4 2, .complex .f32 4 3, .complex .f32 5 1, .bool (Nat.beq i3 1), .complex .f32 4 i4] .empty))) = true := by kernel_rfl
theorem c_2_3_2 (O : Addr → Option Value) : (allB 2 fun i3 => (allB 4 fun i4 => isTrue (evalCallF (tabOf fs ts es ps) O 100000 60 3 [.complex .f32 4 2, .complex .f32 4 3, .complex .f32 5 2, .bool (Nat.beq i3 1), .complex .f32 4 i4] .empty))) = true := by kernel_rfl
theorem c_2_3_3 (O : Addr → Option Value) : (allB 2 fun i3 => (allB 4 fun i4 => isTrue (evalCallF (tabOf fs ts es ps) O 100000 60 3 [.complex .f32 4 2, .complex .f32 4 3, .complex .f32 5 3, .bool (Nat.beq i3 1), .complex .f32 4 i4] .empty))) = true := by kernel_rfl
theorem c_2_3_4 (O : Addr → Option Value) : (allB 2 fun i3 => (allB 4 fun i4 => isTrue (evalCallF (tabOf fs ts es ps) O 100000 60 3 [.complex .f32 4 2, .complex .f32 4 3, .complex .f32 5 4, .bool (Nat.beq i3 1), .complex .f32 4 i4] .empty))) = true := by kernel_rfl
theorem c_3_0_0 (O : Addr → Option Value) : (allB 2 fun i3 => (allB 4 fun i4 => isTrue (evalCallF (tabOf fs ts es ps) O 100000 60 3 [.complex .f32 4 3, .complex .f32 4 0, .complex .f32 5 0, .bool (Nat.beq i3 1), .complex .f32 4 i4] .empty))) = true := by kernel_rfl
theorem c_3_0_1 (O : Addr → Option Value) : (allB 2 fun i3 => (allB 4 fun i4 => isTrue (evalCallF (tabOf fs ts es ps) O 100000 60 3 [.complex .f32 4 3, .complex .f32 4 0, .complex .f32 5 1, .bool (Nat.beq i3 1), .complex .f32 4 i4] .empty))) = true := by kernel_rfl
theorem c_3_0_2 (O : Addr → Option Value) : (allB 2 fun i3 => (allB 4 fun i4 => isTrue (evalCallF (tabOf fs ts es ps) O 100000 60 3 [.complex .f32 4 3, .complex .f32 4 0, .complex .f32 5 2, .bool (Nat.beq i3 1), .complex .f32 4 i4] .empty))) = true := by kernel_rfl
theorem c_3_0_3 (O : Addr → Option Value) : (allB 2 fun i3 => (allB 4 fun i4 => isTrue (evalCallF (tabOf fs ts es ps) O 100000 60 3 [.complex .f32 4 3, .complex .f32 4 0, .complex .f32 5 3, .bool (Nat.beq i3 1), .complex .f32 4 i4] .empty))) = true := by kernel_rfl
theorem c_3_0_4 (O : Addr → Option Value) : (allB 2 fun i3 => (allB 4 fun i4 => isTrue (evalCallF (tabOf fs ts es ps) O 100000 60 3 [.complex .f32 4 3, .complex .f32 4 0, .complex .f32 5 4, .bool (Nat.beq i3 1), .complex .f32 4 i4] .empty))) = true := by kernel_rfl
theorem c_3_1_0 (O : Addr → Option Value) : (allB 2 fun i3 => (allB 4 fun i4 => isTrue (evalCallF (tabOf fs ts es ps) O 100000 60 3 [.complex .f32 4 3, .complex .f32 4 1, .complex .f32 5 0, .bool (Nat.beq i3 1), .complex .f32 4 i4] .empty))) = true := by kernel_rfl
theorem c_3_1_1 (O : Addr → Option Value) : (allB 2 fun i3 => (allB 4 fun i4 => isTrue (evalCallF (tabOf fs ts es ps) O 100000 60 3 [.complex .f32 4 3, .complex .f32 4 1, .complex .f32 5 1, .bool (Nat.beq i3 1), .complex .f32 4 i4] .empty))) = true := by kernel_rfl
theorem c_3_1_2 (O : Addr → Option Value) : (allB 2 fun i3 => (allB 4 fun i4 => isTrue (evalCallF (tabOf fs ts es ps) O 100000 60 3 [.complex .f32 4 3, .complex .f32 4 1, .complex .f32 5 2, .bool (Nat.beq i3 1), .complex .f32 4 i4] .empty))) = true := by kernel_rfl
theorem c_3_1_3 (O : Addr → Option Value) : (allB 2 fun i3 => (allB 4 fun i4 => isTrue (evalCallF (tabOf fs ts es ps) O 100000 60 3 [.complex .f32 4 3, .complex .f32 4 1, .complex .f32 5 3, .bool (Nat.beq i3 1), .complex .f32 4 i4] .empty))) = true := by kernel_rfl
theorem c_3_1_4 (O : Addr → Option Value) : (allB 2 fun i3 => (allB 4 fun i4 => isTrue (evalCallF (tabOf fs ts es ps) O 100000 60 3 [.complex .f32 4 3, .complex .f32 4 1, .complex .f32 5 4, .bool (Nat.beq i3 1), .complex .f32 4 i4] .empty))) = true := by kernel_rfl
theorem c_3_2_0 (O : Addr → Option Value) : (allB 2 fun i3 => (allB 4 fun i4 => isTrue (evalCallF (tabOf fs ts es ps) O 100000 60 3 [.complex .f32 4 3, .complex .f32 4 2, .complex .f32 5 0, .bool (Nat.beq i3 1), .complex .f32 4 i4] .empty))) = true := by kernel_rfl
theorem c_3_2_1 (O : Addr → Option Value) : (allB 2 fun i3 => (allB 4 fun i4 => isTrue (evalCallF (tabOf fs ts es ps) O 100000 60 3 [.complex .f32 4 3, .complex .f32 4 2, .complex .f32 5 1, .bool (Nat.beq i3 1), .complex .f32 4 i4] .empty))) = true := by kernel_rfl
theorem c_3_2_2 (O : Addr → Option Value) : (allB 2 fun i3 => (allB 4 fun i4 => isTrue (evalCallF (tabOf fs ts es ps) O 100000 60 3 [.complex .f32 4 3, .complex .f32 4 2, .complex .f32 5 2, .bool (Nat.beq i3 1), .complex .f32 4 i4] .empty))) = true := by kernel_rfl
theorem c_3_2_3 (O : Addr → Option Value) : (allB 2 fun i3 => (allB 4 fun i4 => isTrue (evalCallF (tabOf fs ts es ps) O 100000 60 3 [.complex .f32 4 3, .complex .f32 4 2, .complex .f32 5 3, .bool (Nat.beq i3 1), .complex .f32 4 i4] .empty))) = true := by kernel_rfl
theorem c_3_2_4 (O : Addr → Option Value) : (allB 2 fun i3 => (allB 4 fun i4 => isTrue (evalCallF (tabOf fs ts es ps) O 100000 60 3 [.complex .f32 4 3, .complex .f32 4 2, .complex .f32 5 4, .bool (Nat.beq i3 1), .complex .f32 4 i4] .empty))) = true := by kernel_rfl
theorem c_3_3_0 (O : Addr → Option Value) : (allB 2 fun i3 => (allB 4 fun i4 => isTrue (evalCallF (tabOf fs ts es ps) O 100000 60 3 [.complex .f32 4 3, .complex .f32 4 3, .complex .f32 5 0, .bool (Nat.beq i3 1), .complex .f32 4 i4] .empty))) = true := by kernel_rfl
theorem c_3_3_1 (O : Addr → Option Value) : (allB 2 fun i3 => (allB 4 fun i4 => isTrue (evalCallF (tabOf fs ts es ps) O 100000 60 3 [.complex .f32 4 3, .complex .f32 4 3, .complex .f32 5 1, .bool (Nat.beq i3 1), .complex .f32 4 i4] .empty))) = true := by kernel_rfl
theorem c_3_3_2 (O : Addr → Option Value) : (allB 2 fun i3 => (allB 4 fun i4 => isTrue (evalCallF (tabOf fs ts es ps) O 100000 60 3 [.complex .f32 4 3, .complex .f32 4 3, .complex .f32 5 2, .bool (Nat.beq i3 1), .complex .f32 4 i4] .empty))) = true := by kernel_rfl
theorem c_3_3_3 (O : Addr → Option Value) : (allB 2 fun i3 => (allB 4 fun i4 => isTrue (evalCallF (tabOf fs ts es ps) O 100000 60 3 [.complex .f32 4 3, .complex .f32 4 3, .complex .f32 5 3, .bool (Nat.beq i3 1), .complex .f32 4 i4] .empty))) = true := by kernel_rfl
theorem c_3_3_4 (O : Addr → Option Value) : (allB 2 fun i3 => (allB 4 fun i4 => isTrue (evalCallF (tabOf fs ts es ps) O 100000 60 3 [.complex .f32 4 3, .complex .f32 4 3, .complex .f32 5 4, .bool (Nat.beq i3 1), .complex .f32 4 i4] .empty))) = true := by kernel_rfl
theorem eval (O : Addr → Option Value) (i0 i1 i2 i3 i4 : Nat) (h0 : i0 < 4) (h1 : i1 < 4) (h2 : i2 < 5) (h3 : i3 < 2) (h4 : i4 < 4) : isTrue (evalCallF (tabOf fs ts es ps) O 100000 60 3 [.complex .f32 4 i0, .complex .f32 4 i1, .complex .f32 5 i2, .bool (Nat.beq i3 1), .complex .f32 4 i4] .empty) = true := by
  match i0, h0 with
  | 0, _ =>
    match i1, h1 with
    | 0, _ =>
      match i2, h2 with
      | 0, _ =>
        exact allB_spec (allB_spec (c_0_0_0 O) i3 h3) i4 h4
      | 1, _ =>
        exact allB_spec (allB_spec (c_0_0_1 O) i3 h3) i4 h4
      | 2, _ =>
        exact allB_spec (allB_spec (c_0_0_2 O) i3 h3) i4 h4
      | 3, _ =>
        exact allB_spec (allB_spec (c_0_0_3 O) i3 h3) i4 h4
      | 4, _ =>
        exact allB_spec (allB_spec (c_0_0_4 O) i3 h3) i4 h4
      | q + 5, h => exact absurd h (by omega)
    | 1, _ =>
      match i2, h2 with
      | 0, _ =>
        exact allB_spec (allB_spec (c_0_1_0 O) i3 h3) i4 h4
      | 1, _ =>
        exact allB_spec (allB_spec (c_0_1_1 O) i3 h3) i4 h4
      | 2, _ =>
        exact allB_spec (allB_spec (c_0_1_2 O) i3 h3) i4 h4
      | 3, _ =>
        exact allB_spec (allB_spec (c_0_1_3 O) i3 h3) i4 h4
      | 4, _ =>
        exact allB_spec (allB_spec (c_0_1_4 O) i3 h3) i4 h4
      | q + 5, h => exact absurd h (by omega)
    | 2, _ =>
      match i2, h2 with
      | 0, _ =>
        exact allB_spec (allB_spec (c_0_2_0 O) i3 h3) i4 h4
      | 1, _ =>
        exact allB_spec (allB_spec (c_0_2_1 O) i3 h3) i4 h4
      | 2, _ =>
        exact allB_spec (allB_spec (c_0_2_2 O) i3 h3) i4 h4
      | 3, _ =>
        exact allB_spec (allB_spec (c_0_2_3 O) i3 h3) i4 h4
      | 4, _ =>
        exact allB_spec (allB_spec (c_0_2_4 O) i3 h3) i4 h4
      | q + 5, h => exact absurd h (by omega)
    | 3, _ =>
      match i2, h2 with
      | 0, _ =>
        exact allB_spec (allB_spec (c_0_3_0 O) i3 h3) i4 h4
      | 1, _ =>
        exact allB_spec (allB_spec (c_0_3_1 O) i3 h3) i4 h4
      | 2, _ =>
        exact allB_spec (allB_spec (c_0_3_2 O) i3 h3) i4 h4
      | 3, _ =>
        exact allB_spec (allB_spec (c_0_3_3 O) i3 h3) i4 h4
      | 4, _ =>
        exact allB_spec (allB_spec (c_0_3_4 O) i3 h3) i4 h4
      | q + 5, h => exact absurd h (by omega)
    | q + 4, h => exact absurd h (by omega)
  | 1, _ =>
    match i1, h1 with
    | 0, _ =>
      match i2, h2 with
      | 0, _ =>
        exact allB_spec (allB_spec (c_1_0_0 O) i3 h3) i4 h4
      | 1, _ =>
        exact allB_spec (allB_spec (c_1_0_1 O) i3 h3) i4 h4
      | 2, _ =>
        exact allB_spec (allB_spec (c_1_0_2 O) i3 h3) i4 h4
      | 3, _ =>
        exact allB_spec (allB_spec (c_1_0_3 O) i3 h3) i4 h4
      | 4, _ =>
        exact allB_spec (allB_spec (c_1_0_4 O) i3 h3) i4 h4
      | q + 5, h => exact absurd h (by omega)
    | 1, _ =>
      match i2, h2 with
      | 0, _ =>
        exact allB_spec (allB_spec (c_1_1_0 O) i3 h3) i4 h4
      | 1, _ =>
        exact allB_spec (allB_spec (c_1_1_1 O) i3 h3) i4 h4
      | 2, _ =>
        exact allB_spec (allB_spec (c_1_1_2 O) i3 h3) i4 h4
      | 3, _ =>
        exact allB_spec (allB_spec (c_1_1_3 O) i3 h3) i4 h4
      | 4, _ =>
        exact allB_spec (allB_spec (c_1_1_4 O) i3 h3) i4 h4
      | q + 5, h => exact absurd h (by omega)
    | 2, _ =>
      match i2, h2 with
      | 0, _ =>
        exact allB_spec (allB_spec (c_1_2_0 O) i3 h3) i4 h4
      | 1, _ =>
        exact allB_spec (allB_spec (c_1_2_1 O) i3 h3) i4 h4
      | 2, _ =>
        exact allB_spec (allB_spec (c_1_2_2 O) i3 h3) i4 h4
      | 3, _ =>
        exact allB_spec (allB_spec (c_1_2_3 O) i3 h3) i4 h4
      | 4, _ =>
        exact allB_spec (allB_spec (c_1_2_4 O) i3 h3) i4 h4
      | q + 5, h => exact absurd h (by omega)
    | 3, _ =>
      match i2, h2 with
      | 0, _ =>
        exact allB_spec (allB_spec (c_1_3_0 O) i3 h3) i4 h4
      | 1, _ =>
        exact allB_spec (allB_spec (c_1_3_1 O) i3 h3) i4 h4
      | 2, _ =>
        exact allB_spec (allB_spec (c_1_3_2 O) i3 h3) i4 h4
      | 3, _ =>
        exact allB_spec (allB_spec (c_1_3_3 O) i3 h3) i4 h4
      | 4, _ =>
        exact allB_spec (allB_spec (c_1_3_4 O) i3 h3) i4 h4
      | q + 5, h => exact absurd h (by omega)
    | q + 4, h => exact absurd h (by omega)
  | 2, _ =>
    match i1, h1 with
    | 0, _ =>
      match i2, h2 with
      | 0, _ =>
        exact allB_spec (allB_spec (c_2_0_0 O) i3 h3) i4 h4
      | 1, _ =>
        exact allB_spec (allB_spec (c_2_0_1 O) i3 h3) i4 h4
      | 2, _ =>
        exact allB_spec (allB_spec (c_2_0_2 O) i3 h3) i4 h4
      | 3, _ =>
        exact allB_spec (allB_spec (c_2_0_3 O) i3 h3) i4 h4
      | 4, _ =>
        exact allB_spec (allB_spec (c_2_0_4 O) i3 h3) i4 h4
      | q + 5, h => exact absurd h (by omega)
    | 1, _ =>
      match i2, h2 with
      | 0, _ =>
        exact allB_spec (allB_spec (c_2_1_0 O) i3 h3) i4 h4
      | 1, _ =>
        exact allB_spec (allB_spec (c_2_1_1 O) i3 h3) i4 h4
      | 2, _ =>
        exact allB_spec (allB_spec (c_2_1_2 O) i3 h3) i4 h4
      | 3, _ =>
        exact allB_spec (allB_spec (c_2_1_3 O) i3 h3) i4 h4
      | 4, _ =>
        exact allB_spec (allB_spec (c_2_1_4 O) i3 h3) i4 h4
      | q + 5, h => exact absurd h (by omega)
    | 2, _ =>
      match i2, h2 with
      | 0, _ =>
        exact allB_spec (allB_spec (c_2_2_0 O) i3 h3) i4 h4
      | 1, _ =>
        exact allB_spec (allB_spec (c_2_2_1 O) i3 h3) i4 h4
      | 2, _ =>
        exact allB_spec (allB_spec (c_2_2_2 O) i3 h3) i4 h4
      | 3, _ =>
        exact allB_spec (allB_spec (c_2_2_3 O) i3 h3) i4 h4
      | 4, _ =>
        exact allB_spec (allB_spec (c_2_2_4 O) i3 h3) i4 h4
      | q + 5, h => exact absurd h (by omega)
    | 3, _ =>
      match i2, h2 with
      | 0, _ =>
        exact allB_spec (allB_spec (c_2_3_0 O) i3 h3) i4 h4
      | 1, _ =>
        exact allB_spec (allB_spec (c_2_3_1 O) i3 h3) i4 h4
      | 2, _ =>
        exact allB_spec (allB_spec (c_2_3_2 O) i3 h3) i4 h4
      | 3, _ =>
        exact allB_spec (allB_spec (c_2_3_3 O) i3 h3) i4 h4
      | 4, _ =>
        exact allB_spec (allB_spec (c_2_3_4 O) i3 h3) i4 h4
      | q + 5, h => exact absurd h (by omega)
    | q + 4, h => exact absurd h (by omega)
  | 3, _ =>
    match i1, h1 with
    | 0, _ =>
      match i2, h2 with
      | 0, _ =>
        exact allB_spec (allB_spec (c_3_0_0 O) i3 h3) i4 h4
      | 1, _ =>
        exact allB_spec (allB_spec (c_3_0_1 O) i3 h3) i4 h4
      | 2, _ =>
        exact allB_spec (allB_spec (c_3_0_2 O) i3 h3) i4 h4
      | 3, _ =>
        exact allB_spec (allB_spec (c_3_0_3 O) i3 h3) i4 h4
      | 4, _ =>
        exact allB_spec (allB_spec (c_3_0_4 O) i3 h3) i4 h4
      | q + 5, h => exact absurd h (by omega)
    | 1, _ =>
      match i2, h2 with
      | 0, _ =>
        exact allB_spec (allB_spec (c_3_1_0 O) i3 h3) i4 h4
      | 1, _ =>
        exact allB_spec (allB_spec (c_3_1_1 O) i3 h3) i4 h4
      | 2, _ =>
        exact allB_spec (allB_spec (c_3_1_2 O) i3 h3) i4 h4
      | 3, _ =>
        exact allB_spec (allB_spec (c_3_1_3 O) i3 h3) i4 h4
      | 4, _ =>
        exact allB_spec (allB_spec (c_3_1_4 O) i3 h3) i4 h4
      | q + 5, h => exact absurd h (by omega)
    | 2, _ =>
      match i2, h2 with
      | 0, _ =>
        exact allB_spec (allB_spec (c_3_2_0 O) i3 h3) i4 h4
      | 1, _ =>
        exact allB_spec (allB_spec (c_3_2_1 O) i3 h3) i4 h4
      | 2, _ =>
        exact allB_spec (allB_spec (c_3_2_2 O) i3 h3) i4 h4
      | 3, _ =>
        exact allB_spec (allB_spec (c_3_2_3 O) i3 h3) i4 h4
      | 4, _ =>
        exact allB_spec (allB_spec (c_3_2_4 O) i3 h3) i4 h4
      | q + 5, h => exact absurd h (by omega)
    | 3, _ =>
      match i2, h2 with
      | 0, _ =>
        exact allB_spec (allB_spec (c_3_3_0 O) i3 h3) i4 h4
      | 1, _ =>
        exact allB_spec (allB_spec (c_3_3_1 O) i3 h3) i4 h4
      | 2, _ =>
        exact allB_spec (allB_spec (c_3_3_2 O) i3 h3) i4 h4
      | 3, _ =>
        exact allB_spec (allB_spec (c_3_3_3 O) i3 h3) i4 h4
      | 4, _ =>
        exact allB_spec (allB_spec (c_3_3_4 O) i3 h3) i4 h4
      | q + 5, h => exact absurd h (by omega)
    | q + 4, h => exact absurd h (by omega)
  | q + 4, h => exact absurd h (by omega)
theorem holds (a0 : Int) (a1 : Int) (a2 : Int) (a3 : Bool) (a4 : Int) (w0 : (Lit.int .u8 a0).wf = true) (w1 : (Lit.int .u8 a1).wf = true) (w2 : (Lit.int .u8 a2).wf = true) (w4 : (Lit.int .u8 a4).wf = true) (W : World) : Calls Try.prog 3 #[.int .u8 a0, .int .u8 a1, .int .u8 a2, .bool a3, .int .u8 a4] W fun e W' => e = .returned (.bool true) ∧ Stays W W' :=
  law_rel (lf := 100000) (k := 60) (fn := Try.f3) (l' := [.int .u8 a0, .int .u8 a1, .int .u8 a2, .bool a3, .int .u8 a4]) (by kernel_rfl) (by kernel_rfl) (.cons (res_arg w0) (.cons (res_arg w1) (.cons (res_arg w2) (.cons (bool_arg a3) (.cons (res_arg w4) .nil))))) (eval _ (a0.toNat % 4) (a1.toNat % 4) (a2.toNat % 5) a3.toNat (a4.toNat % 4) (Nat.mod_lt _ (by decide)) (Nat.mod_lt _ (by decide)) (Nat.mod_lt _ (by decide)) (bool_lt a3) (Nat.mod_lt _ (by decide)))

set_option maxRecDepth 100000 in
theorem contract (H : Type) (enc : TypeId × Value → H) (W : World) (base : Nat) (args : Array Value) (ds gs : List (DataW H)) (before : List MemPlace)
    (hval : ∀ (j : Nat) t v, Try.f3.params[j]? = some t → args[j]? = some v → Value.okWide Try.prog W .any base t v)
    (hW : DataW.Whole enc Try.prog Try.f3.params.toList Rows.shapeRulesSpec.vars false W args.toList ds gs before) :
    Calls Try.prog 3 args W fun e W' => ∃ v, e = .returned v ∧ Rows.shapeRulesSpec.post enc Try.prog Try.f3 false true false false W args v W' := by
  have hW' := hW
  obtain ⟨p, q, hA0, hV, rfl, hfz, hnd⟩ := hW
  have hA : DataW.TrodAll enc Try.prog W 0 (fun _ => true) true Try.f3.params.toList args.toList ds p := hA0
  rw [Try.params3] at hA hval
  obtain ⟨v0, vs0, d0, ds0, p0, q0, hargs, rfl, rfl, h0, r0⟩ := trodAll_cons hA
  obtain ⟨v1, vs1, d1, ds1, p1, q1, rfl, rfl, rfl, h1, r1⟩ := trodAll_cons r0
  obtain ⟨v2, vs2, d2, ds2, p2, q2, rfl, rfl, rfl, h2, r2⟩ := trodAll_cons r1
  obtain ⟨v3, vs3, d3, ds3, p3, q3, rfl, rfl, rfl, h3, r3⟩ := trodAll_cons r2
  obtain ⟨v4, vs4, d4, ds4, p4, q4, rfl, rfl, rfl, h4, r4⟩ := trodAll_cons r3
  obtain ⟨rfl, rfl, rfl⟩ := trodAll_nil r4
  obtain rfl : args = #[v0, v1, v2, v3, v4] := by cases args; simp_all
  obtain ⟨rfl, rfl⟩ := trodVars_none hV
  obtain ⟨a0, rfl, rfl, rfl, w0⟩ := open_int Try.underlying5 (hval 0 5 v0 rfl rfl) h0
  obtain ⟨a1, rfl, rfl, rfl, w1⟩ := open_int Try.underlying5 (hval 1 5 v1 rfl rfl) h1
  obtain ⟨a2, rfl, rfl, rfl, w2⟩ := open_int Try.underlying5 (hval 2 5 v2 rfl rfl) h2
  obtain ⟨a3, rfl, rfl, rfl⟩ := open_bool Try.underlying4 (hval 3 4 v3 rfl rfl) h3
  obtain ⟨a4, rfl, rfl, rfl, w4⟩ := open_int Try.underlying5 (hval 4 5 v4 rfl rfl) h4
  clear hA0
  simp only [List.append_nil] at hW'
  refine (holds a0 a1 a2 a3 a4 w0 w1 w2 w4 W).mono fun e W' ⟨he, hg⟩ => ?_
  subst he
  exact ⟨_, rfl, post_mine (pa := []) (pv := []) hW' hg (fun _ _ _ => (trodAll_cons_mk (shut_bool Try.underlying4 _) trodAll_mk0)) (fun sp _ => (trodAll_cons_mk (shut_int Try.underlying5 w0) (trodAll_cons_mk (shut_int Try.underlying5 w1) (trodAll_cons_mk (shut_int Try.underlying5 w2) (trodAll_cons_mk (shut_bool Try.underlying4 a3) (trodAll_cons_mk (shut_int Try.underlying5 w4) trodAll_mk0)))))) (fun _ _ => rfl) rfl
    (ok_one (by kernel_rfl) rfl (okWide_bool_mk Try.underlying4 _))⟩

set_option maxRecDepth 100000 in
theorem lifted (os : Os) (started : os.Started) (H : Type) (enc : TypeId × Value → H) :
    ReturnsInHanded {} Try.checked os 3 .any (Rows.shapeRulesSpec.pre6 enc Try.prog Try.f3 Rows.shapeRulesRow.domain false) (Rows.shapeRulesSpec.post enc Try.prog Try.f3 false true false false) := by
  refine returnsInHanded_of_change (C := Try.checked) own started (by kernel_rfl) Try.func3
    (ChangeSpec.witness6 (enc := enc) (C := Try.checked) false ⟨#[], #[.int .u8 0, .int .u8 0, .int .u8 0, .bool false, .int .u8 0], []⟩ 8 (by kernel_rfl) (by kernel_rfl) (by kernel_rfl) (by kernel_rfl)) ?_
  intro W base args ds gs before hval hW _ _
  exact contract H enc W base args ds gs before hval hW

theorem proved : Rows.ShapeRulesSaid :=
  OpenClaim.holds_of_wide 3 Try.f3 rfl rfl rfl rfl rfl rfl rfl ⟨rfl, rfl, rfl, rfl, rfl⟩ rfl rfl rfl rfl rfl (by kernel_rfl) Try.func3 (by kernel_rfl)
    (of_decide_eq_true (by kernel_rfl)) (by unfold Func.isWrapper; first | (rw [if_pos (by decide +kernel)]; kernel_rfl) | (rw [if_neg (by decide +kernel)]; exact ⟨rfl, rfl⟩))
    (fun os started H enc _ => lifted os started H enc)
end Go.Proofs.Ythppkfdlnkimhaa.shapeRules
