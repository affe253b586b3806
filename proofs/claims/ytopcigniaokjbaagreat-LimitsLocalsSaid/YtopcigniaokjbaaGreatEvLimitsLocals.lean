/-
  'bonsai/bonsailaw6.LimitsLocals' is true, whatever the input. No condition.
-/
import Derived.Test.YtopcigniaokjbaaGreatEvTab
import Derived.OpenShut
namespace Go.Proofs.YtopcigniaokjbaaGreat.limitsLocals
open Go.Ev Go.ChangeShapes Go.WideShapes Go.ChangeAt Go.RowKit
set_option linter.unusedVariables false
set_option linter.unusedSimpArgs false

theorem c_0_0 (O : Addr → Option Value) : (allB 14 fun i2 => (allB 2 fun i3 => (allB 2 fun i4 => isTrue (evalCallF (tabOf fs ts es ps) O 100000 60 5 [.complex .f32 9 0, .complex .f32 12 0, .complex .f32 14 i2, .bool (Nat.beq i3 1), .bool (Nat.beq i4 1)] .empty)))) = true := by kernel_rfl
theorem c_0_1 (O : Addr → Option Value) : (allB 14 fun i2 => (allB 2 fun i3 => (allB 2 fun i4 => isTrue (evalCallF (tabOf fs ts es ps) O 100000 60 5 [.complex .f32 9 0, .complex .f32 12 1, .complex .f32 14 i2, .bool (Nat.beq i3 1), .bool (Nat.beq i4 1)] .empty)))) = true := by kernel_rfl
theorem c_0_2 (O : Addr → Option Value) : (allB 14 fun i2 => (allB 2 fun i3 => (allB 2 fun i4 => isTrue (evalCallF (tabOf fs ts es ps) O 100000 60 5 [.complex .f32 9 0, .complex .f32 12 2, .complex .f32 14 i2, .bool (Nat.beq i3 1), .bool (Nat.beq i4 1)] .empty)))) = true := by kernel_rfl
theorem c_0_3 (O : Addr → Option Value) : (allB 14 fun i2 => (allB 2 fun i3 => (allB 2 fun i4 => isTrue (evalCallF (tabOf fs ts es ps) O 100000 60 5 [.complex .f32 9 0, .complex .f32 12 3, .complex .f32 14 i2, .bool (Nat.beq i3 1), .bool (Nat.beq i4 1)] .empty)))) = true := by kernel_rfl
theorem c_0_4 (O : Addr → Option Value) : (allB 14 fun i2 => (allB 2 fun i3 => (allB 2 fun i4 => isTrue (evalCallF (tabOf fs ts es ps) O 100000 60 5 [.complex .f32 9 0, .complex .f32 12 4, .complex .f32 14 i2, .bool (Nat.beq i3 1), .bool (Nat.beq i4 1)] .empty)))) = true := by kernel_rfl
theorem c_0_5 (O : Addr → Option Value) : (allB 14 fun i2 => (allB 2 fun i3 => (allB 2 fun i4 => isTrue (evalCallF (tabOf fs ts es ps) O 100000 60 5 [.complex .f32 9 0, .complex .f32 12 5, .complex .f32 14 i2, .bool (Nat.beq i3 1), .bool (Nat.beq i4 1)] .empty)))) = true := by kernel_rfl
theorem c_0_6 (O : Addr → Option Value) : (allB 14 fun i2 => (allB 2 fun i3 => (allB 2 fun i4 => isTrue (evalCallF (tabOf fs ts es ps) O 100000 60 5 [.complex .f32 9 0, .complex .f32 12 6, .complex .f32 14 i2, .bool (Nat.beq i3 1), .bool (Nat.beq i4 1)] .empty)))) = true := by kernel_rfl
theorem c_0_7 (O : Addr → Option Value) : (allB 14 fun i2 => (allB 2 fun i3 => (allB 2 fun i4 => isTrue (evalCallF (tabOf fs ts es ps) O 100000 60 5 [.complex .f32 9 0, .complex .f32 12 7, .complex .f32 14 i2, .bool (Nat.beq i3 1), .bool (Nat.beq i4 1)] .empty)))) = true := by kernel_rfl
theorem c_0_8 (O : Addr → Option Value) : (allB 14 fun i2 => (allB 2 fun i3 => (allB 2 fun i4 => isTrue (evalCallF (tabOf fs ts es ps) O 100000 60 5 [.complex .f32 9 0, .complex .f32 12 8, .complex .f32 14 i2, .bool (Nat.beq i3 1), .bool (Nat.beq i4 1)] .empty)))) = true := by kernel_rfl
theorem c_0_9 (O : Addr → Option Value) : (allB 14 fun i2 => (allB 2 fun i3 => (allB 2 fun i4 => isTrue (evalCallF (tabOf fs ts es ps) O 100000 60 5 [.complex .f32 9 0, .complex .f32 12 9, .complex .f32 14 i2, .bool (Nat.beq i3 1), .bool (Nat.beq i4 1)] .empty)))) = true := by kernel_rfl
theorem c_0_10 (O : Addr → Option Value) : (allB 14 fun i2 => (allB 2 fun i3 => (allB 2 fun i4 => isTrue (evalCallF (tabOf fs ts es ps) O 100000 60 5 [.complex .f32 9 0, .complex .f32 12 10, .complex .f32 14 i2, .bool (Nat.beq i3 1), .bool (Nat.beq i4 1)] .empty)))) = true := by kernel_rfl
theorem c_0_11 (O : Addr → Option Value) : (allB 14 fun i2 => (allB 2 fun i3 => (allB 2 fun i4 => isTrue (evalCallF (tabOf fs ts es ps) O 100000 60 5 [.complex .f32 9 0, .complex .f32 12 11, .complex .f32 14 i2, .bool (Nat.beq i3 1), .bool (Nat.beq i4 1)] .empty)))) = true := by kernel_rfl
theorem c_1_0 (O : Addr → Option Value) : (allB 14 fun i2 => (allB 2 fun i3 => (allB 2 fun i4 => isTrue (evalCallF (tabOf fs ts es ps) O 100000 60 5 [.complex .f32 9 1, .complex .f32 12 0, .complex .f32 14 i2, .bool (Nat.beq i3 1), .bool (Nat.beq i4 1)] .empty)))) = true := by kernel_rfl
theorem c_1_1 (O : Addr → Option Value) : (allB 14 fun i2 => (allB 2 fun i3 => (allB 2 fun i4 => isTrue (evalCallF (tabOf fs ts es ps) O 100000 60 5 [.complex .f32 9 1, .complex .f32 12 1, .complex .f32 14 i2, .bool (Nat.beq i3 1), .bool (Nat.beq i4 1)] .empty)))) = true := by kernel_rfl
theorem c_1_2 (O : Addr → Option Value) : (allB 14 fun i2 => (allB 2 fun i3 => (allB 2 fun i4 => isTrue (evalCallF (tabOf fs ts es ps) O 100000 60 5 [.complex .f32 9 1, .complex .f32 12 2, .complex .f32 14 i2, .bool (Nat.beq i3 1), .bool (Nat.beq i4 1)] .empty)))) = true := by kernel_rfl
theorem c_1_3 (O : Addr → Option Value) : (allB 14 fun i2 => (allB 2 fun i3 => (allB 2 fun i4 => isTrue (evalCallF (tabOf fs ts es ps) O 100000 60 5 [.complex .f32 9 1, .complex .f32 12 3, .complex .f32 14 i2, .bool (Nat.beq i3 1), .bool (Nat.beq i4 1)] .empty)))) = true := by kernel_rfl
theorem c_1_4 (O : Addr → Option Value) : (allB 14 fun i2 => (allB 2 fun i3 => (allB 2 fun i4 => isTrue (evalCallF (tabOf fs ts es ps) O 100000 60 5 [.complex .f32 9 1, .complex .f32 12 4, .complex .f32 14 i2, .bool (Nat.beq i3 1), .bool (Nat.beq i4 1)] .empty)))) = true := by kernel_rfl
theorem c_1_5 (O : Addr → Option Value) : (allB 14 fun i2 => (allB 2 fun i3 => (allB 2 fun i4 => isTrue (evalCallF (tabOf fs ts es ps) O 100000 60 5 [.complex .f32 9 1, .complex .f32 12 5, .complex .f32 14 i2, .bool (Nat.beq i3 1), .bool (Nat.beq i4 1)] .empty)))) = true := by kernel_rfl
theorem c_1_6 (O : Addr → Option Value) : (allB 14 fun i2 => (allB 2 fun i3 => (allB 2 fun i4 => isTrue (evalCallF (tabOf fs ts es ps) O 100000 60 5 [.complex .f32 9 1, .complex .f32 12 6, .complex .f32 14 i2, .bool (Nat.beq i3 1), .bool (Nat.beq i4 1)] .empty)))) = true := by kernel_rfl
theorem c_1_7 (O : Addr → Option Value) : (allB 14 fun i2 => (allB 2 fun i3 => (allB 2 fun i4 => isTrue (evalCallF (tabOf fs ts es ps) O 100000 60 5 [.complex .f32 9 1, .complex .f32 12 7, .complex .f32 14 i2, .bool (Nat.beq i3 1), .bool (Nat.beq i4 1)] .empty)))) = true := by kernel_rfl
theorem c_1_8 (O : Addr → Option Value) : (allB 14 fun i2 => (allB 2 fun i3 => (allB 2 fun i4 => isTrue (evalCallF (tabOf fs ts es ps) O 100000 60 5 [.complex .f32 9 1, .complex .f32 12 8, .complex .f32 14 i2, .bool (Nat.beq i3 1), .bool (Nat.beq i4 1)] .empty)))) = true := by kernel_rfl
theorem c_1_9 (O : Addr → Option Value) : (allB 14 fun i2 => (allB 2 fun i3 => (allB 2 fun i4 => isTrue (evalCallF (tabOf fs ts es ps) O 100000 60 5 [.complex .f32 9 1, .complex .f32 12 9, .complex .f32 14 i2, .bool (Nat.beq i3 1), .bool (Nat.beq i4 1)] .empty)))) = true := by kernel_rfl
theorem c_1_10 (O : Addr → Option Value) : (allB 14 fun i2 => (allB 2 fun i3 => (allB 2 fun i4 => isTrue (evalCallF (tabOf fs ts es ps) O 100000 60 5 [.complex .f32 9 1, .complex .f32 12 10, .complex .f32 14 i2, .bool (Nat.beq i3 1), .bool (Nat.beq i4 1)] .empty)))) = true := by kernel_rfl
theorem c_1_11 (O : Addr → Option Value) : (allB 14 fun i2 => (allB 2 fun i3 => (allB 2 fun i4 => isTrue (evalCallF (tabOf fs ts es ps) O 100000 60 5 [.complex .f32 9 1, .complex .f32 12 11, .complex .f32 14 i2, .bool (Nat.beq i3 1), .bool (Nat.beq i4 1)] .empty)))) = true := by kernel_rfl
theorem c_2_0 (O : Addr → Option Value) : (allB 14 fun i2 => (allB 2 fun i3 => (allB 2 fun i4 => isTrue (evalCallF (tabOf fs ts es ps) O 100000 60 5 [.complex .f32 9 2, .complex .f32 12 0, .complex .f32 14 i2, .bool (Nat.beq i3 1), .bool (Nat.beq i4 1)] .empty)))) = true := by kernel_rfl
theorem c_2_1 (O : Addr → Option Value) : (allB 14 fun i2 => (allB 2 fun i3 => (allB 2 fun i4 => isTrue (evalCallF (tabOf fs ts es ps) O 100000 60 5 [.complex .f32 9 2, .complex .f32 12 1, .complex .f32 14 i2, .bool (Nat.beq i3 1), .bool (Nat.beq i4 1)] .empty)))) = true := by kernel_rfl
theorem c_2_2 (O : Addr → Option Value) : (allB 14 fun i2 => (allB 2 fun i3 => (allB 2 fun i4 => isTrue (evalCallF (tabOf fs ts es ps) O 100000 60 5 [.complex .f32 9 2, .complex .f32 12 2, .complex .f32 14 i2, .bool (Nat.beq i3 1), .bool (Nat.beq i4 1)] .empty)))) = true := by kernel_rfl
theorem c_2_3 (O : Addr → Option Value) : (allB 14 fun i2 => (allB 2 fun i3 => (allB 2 fun i4 => isTrue (evalCallF (tabOf fs ts es ps) O 100000 60 5 [.complex .f32 9 2, .complex .f32 12 3, .complex .f32 14 i2, .bool (Nat.beq i3 1), .bool (Nat.beq i4 1)] .empty)))) = true := by kernel_rfl
theorem c_2_4 (O : Addr → Option Value) : (allB 14 fun i2 => (allB 2 fun i3 => (allB 2 fun i4 => isTrue (evalCallF (tabOf fs ts es ps) O 100000 60 5 [.complex .f32 9 2, .complex .f32 12 4, .complex .f32 14 i2, .bool (Nat.beq i3 1), .bool (Nat.beq i4 1)] .empty)))) = true := by kernel_rfl
theorem c_2_5 (O : Addr → Option Value) : (allB 14 fun i2 => (allB 2 fun i3 => (allB 2 fun i4 => isTrue (evalCallF (tabOf fs ts es ps) O 100000 60 5 [.complex .f32 9 2, .complex .f32 12 5, .complex .f32 14 i2, .bool (Nat.beq i3 1), .bool (Nat.beq i4 1)] .empty)))) = true := by kernel_rfl
theorem c_2_6 (O : Addr → Option Value) : (allB 14 fun i2 => (allB 2 fun i3 => (allB 2 fun i4 => isTrue (evalCallF (tabOf fs ts es ps) O 100000 60 5 [.complex .f32 9 2, .complex .f32 12 6, .complex .f32 14 i2, .bool (Nat.beq i3 1), .bool (Nat.beq i4 1)] .empty)))) = true := by kernel_rfl
theorem c_2_7 (O : Addr → Option Value) : (allB 14 fun i2 => (allB 2 fun i3 => (allB 2 fun i4 => isTrue (evalCallF (tabOf fs ts es ps) O 100000 60 5 [.complex .f32 9 2, .complex .f32 12 7, .complex .f32 14 i2, .bool (Nat.beq i3 1), .bool (Nat.beq i4 1)] .empty)))) = true := by kernel_rfl
theorem c_2_8 (O : Addr → Option Value) : (allB 14 fun i2 => (allB 2 fun i3 => (allB 2 fun i4 => isTrue (evalCallF (tabOf fs ts es ps) O 100000 60 5 [.complex .f32 9 2, .complex .f32 12 8, .complex .f32 14 i2, .bool (Nat.beq i3 1), .bool (Nat.beq i4 1)] .empty)))) = true := by kernel_rfl
theorem c_2_9 (O : Addr → Option Value) : (allB 14 fun i2 => (allB 2 fun i3 => (allB 2 fun i4 => isTrue (evalCallF (tabOf fs ts es ps) O 100000 60 5 [.complex .f32 9 2, .complex .f32 12 9, .complex .f32 14 i2, .bool (Nat.beq i3 1), .bool (Nat.beq i4 1)] .empty)))) = true := by kernel_rfl
theorem c_2_10 (O : Addr → Option Value) : (allB 14 fun i2 => (allB 2 fun i3 => (allB 2 fun i4 => isTrue (evalCallF (tabOf fs ts es ps) O 100000 60 5 [.complex .f32 9 2, .complex .f32 12 10, .complex .f32 14 i2, .bool (Nat.beq i3 1), .bool (Nat.beq i4 1)] .empty)))) = true := by kernel_rfl
theorem c_2_11 (O : Addr → Option Value) : (allB 14 fun i2 => (allB 2 fun i3 => (allB 2 fun i4 => isTrue (evalCallF (tabOf fs ts es ps) O 100000 60 5 [.complex .f32 9 2, .complex .f32 12 11, .complex .f32 14 i2, .bool (Nat.beq i3 1), .bool (Nat.beq i4 1)] .empty)))) = true := by kernel_rfl
theorem c_3_0 (O : Addr → Option Value) : (allB 14 fun i2 => (allB 2 fun i3 => (allB 2 fun i4 => isTrue (evalCallF (tabOf fs ts es ps) O 100000 60 5 [.complex .f32 9 3, .complex .f32 12 0, .complex .f32 14 i2, .bool (Nat.beq i3 1), .bool (Nat.beq i4 1)] .empty)))) = true := by kernel_rfl
theorem c_3_1 (O : Addr → Option Value) : (allB 14 fun i2 => (allB 2 fun i3 => (allB 2 fun i4 => isTrue (evalCallF (tabOf fs ts es ps) O 100000 60 5 [.complex .f32 9 3, .complex .f32 12 1, .complex .f32 14 i2, .bool (Nat.beq i3 1), .bool (Nat.beq i4 1)] .empty)))) = true := by kernel_rfl
theorem c_3_2 (O : Addr → Option Value) : (allB 14 fun i2 => (allB 2 fun i3 => (allB 2 fun i4 => isTrue (evalCallF (tabOf fs ts es ps) O 100000 60 5 [.complex .f32 9 3, .complex .f32 12 2, .complex .f32 14 i2, .bool (Nat.beq i3 1), .bool (Nat.beq i4 1)] .empty)))) = true := by kernel_rfl
theorem c_3_3 (O : Addr → Option Value) : (allB 14 fun i2 => (allB 2 fun i3 => (allB 2 fun i4 => isTrue (evalCallF (tabOf fs ts es ps) O 100000 60 5 [.complex .f32 9 3, .complex .f32 12 3, .complex .f32 14 i2, .bool (Nat.beq i3 1), .bool (Nat.beq i4 1)] .empty)))) = true := by kernel_rfl
theorem c_3_4 (O : Addr → Option Value) : (allB 14 fun i2 => (allB 2 fun i3 => (allB 2 fun i4 => isTrue (evalCallF (tabOf fs ts es ps) O 100000 60 5 [.complex .f32 9 3, .complex .f32 12 4, .complex .f32 14 i2, .bool (Nat.beq i3 1), .bool (Nat.beq i4 1)] .empty)))) = true := by kernel_rfl
theorem c_3_5 (O : Addr → Option Value) : (allB 14 fun i2 => (allB 2 fun i3 => (allB 2 fun i4 => isTrue (evalCallF (tabOf fs ts es ps) O 100000 60 5 [.complex .f32 9 3, .complex .f32 12 5, .complex .f32 14 i2, .bool (Nat.beq i3 1), .bool (Nat.beq i4 1)] .empty)))) = true := by kernel_rfl
theorem c_3_6 (O : Addr → Option Value) : (allB 14 fun i2 => (allB 2 fun i3 => (allB 2 fun i4 => isTrue (evalCallF (tabOf fs ts es ps) O 100000 60 5 [.complex .f32 9 3, .complex .f32 12 6, .complex .f32 14 i2, .bool (Nat.beq i3 1), .bool (Nat.beq i4 1)] .empty)))) = true := by kernel_rfl
theorem c_3_7 (O : Addr → Option Value) : (allB 14 fun i2 => (allB 2 fun i3 => (allB 2 fun i4 => isTrue (evalCallF (tabOf fs ts es ps) O 100000 60 5 [.complex .f32 9 3, .complex .f32 12 7, .complex .f32 14 i2, .bool (Nat.beq i3 1), .bool (Nat.beq i4 1)] .empty)))) = true := by kernel_rfl
theorem c_3_8 (O : Addr → Option Value) : (allB 14 fun i2 => (allB 2 fun i3 => (allB 2 fun i4 => isTrue (evalCallF (tabOf fs ts es ps) O 100000 60 5 [.complex .f32 9 3, .complex .f32 12 8, .complex .f32 14 i2, .bool (Nat.beq i3 1), .bool (Nat.beq i4 1)] .empty)))) = true := by kernel_rfl
theorem c_3_9 (O : Addr → Option Value) : (allB 14 fun i2 => (allB 2 fun i3 => (allB 2 fun i4 => isTrue (evalCallF (tabOf fs ts es ps) O 100000 60 5 [.complex .f32 9 3, .complex .f32 12 9, .complex .f32 14 i2, .bool (Nat.beq i3 1), .bool (Nat.beq i4 1)] .empty)))) = true := by kernel_rfl
theorem c_3_10 (O : Addr → Option Value) : (allB 14 fun i2 => (allB 2 fun i3 => (allB 2 fun i4 => isTrue (evalCallF (tabOf fs ts es ps) O 100000 60 5 [.complex .f32 9 3, .complex .f32 12 10, .complex .f32 14 i2, .bool (Nat.beq i3 1), .bool (Nat.beq i4 1)] .empty)))) = true := by kernel_rfl
theorem c_3_11 (O : Addr → Option Value) : (allB 14 fun i2 => (allB 2 fun i3 => (allB 2 fun i4 => isTrue (evalCallF (tabOf fs ts es ps) O 100000 60 5 [.complex .f32 9 3, .complex .f32 12 11, .complex .f32 14 i2, .bool (Nat.beq i3 1), .bool (Nat.beq i4 1)] .empty)))) = true := by kernel_rfl
theorem c_4_0 (O : Addr → Option Value) : (allB 14 fun i2 => (allB 2 fun i3 => (allB 2 fun i4 => isTrue (evalCallF (tabOf fs ts es ps) O 100000 60 5 [.complex .f32 9 4, .complex .f32 12 0, .complex .f32 14 i2, .bool (Nat.beq i3 1), .bool (Nat.beq i4 1)] .empty)))) = true := by kernel_rfl
theorem c_4_1 (O : Addr → Option Value) : (allB 14 fun i2 => (allB 2 fun i3 => (allB 2 fun i4 => isTrue (evalCallF (tabOf fs ts es ps) O 100000 60 5 [.complex .f32 9 4, .complex .f32 12 1, .complex .f32 14 i2, .bool (Nat.beq i3 1), .bool (Nat.beq i4 1)] .empty)))) = true := by kernel_rfl
theorem c_4_2 (O : Addr → Option Value) : (allB 14 fun i2 => (allB 2 fun i3 => (allB 2 fun i4 => isTrue (evalCallF (tabOf fs ts es ps) O 100000 60 5 [.complex .f32 9 4, .complex .f32 12 2, .complex .f32 14 i2, .bool (Nat.beq i3 1), .bool (Nat.beq i4 1)] .empty)))) = true := by kernel_rfl
theorem c_4_3 (O : Addr → Option Value) : (allB 14 fun i2 => (allB 2 fun i3 => (allB 2 fun i4 => isTrue (evalCallF (tabOf fs ts es ps) O 100000 60 5 [.complex .f32 9 4, .complex .f32 12 3, .complex .f32 14 i2, .bool (Nat.beq i3 1), .bool (Nat.beq i4 1)] .empty)))) = true := by kernel_rfl
theorem c_4_4 (O : Addr → Option Value) : (allB 14 fun i2 => (allB 2 fun i3 => (allB 2 fun i4 => isTrue (evalCallF (tabOf fs ts es ps) O 100000 60 5 [.complex .f32 9 4, .complex .f32 12 4, .complex .f32 14 i2, .bool (Nat.beq i3 1), .bool (Nat.beq i4 1)] .empty)))) = true := by kernel_rfl
theorem c_4_5 (O : Addr → Option Value) : (allB 14 fun i2 => (allB 2 fun i3 => (allB 2 fun i4 => isTrue (evalCallF (tabOf fs ts es ps) O 100000 60 5 [.complex .f32 9 4, .complex .f32 12 5, .complex .f32 14 i2, .bool (Nat.beq i3 1), .bool (Nat.beq i4 1)] .empty)))) = true := by kernel_rfl
theorem c_4_6 (O : Addr → Option Value) : (allB 14 fun i2 => (allB 2 fun i3 => (allB 2 fun i4 => isTrue (evalCallF (tabOf fs ts es ps) O 100000 60 5 [.complex .f32 9 4, .complex .f32 12 6, .complex .f32 14 i2, .bool (Nat.beq i3 1), .bool (Nat.beq i4 1)] .empty)))) = true := by kernel_rfl
theorem c_4_7 (O : Addr → Option Value) : (allB 14 fun i2 => (allB 2 fun i3 => (allB 2 fun i4 => isTrue (evalCallF (tabOf fs ts es ps) O 100000 60 5 [.complex .f32 9 4, .complex .f32 12 7, .complex .f32 14 i2, .bool (Nat.beq i3 1), .bool (Nat.beq i4 1)] .empty)))) = true := by kernel_rfl
theorem c_4_8 (O : Addr → Option Value) : (allB 14 fun i2 => (allB 2 fun i3 => (allB 2 fun i4 => isTrue (evalCallF (tabOf fs ts es ps) O 100000 60 5 [.complex .f32 9 4, .complex .f32 12 8, .complex .f32 14 i2, .bool (Nat.beq i3 1), .bool (Nat.beq i4 1)] .empty)))) = true := by kernel_rfl
theorem c_4_9 (O : Addr → Option Value) : (allB 14 fun i2 => (allB 2 fun i3 => (allB 2 fun i4 => isTrue (evalCallF (tabOf fs ts es ps) O 100000 60 5 [.complex .f32 9 4, .complex .f32 12 9, .complex .f32 14 i2, .bool (Nat.beq i3 1), .bool (Nat.beq i4 1)] .empty)))) = true := by kernel_rfl
theorem c_4_10 (O : Addr → Option Value) : (allB 14 fun i2 => (allB 2 fun i3 => (allB 2 fun i4 => isTrue (evalCallF (tabOf fs ts es ps) O 100000 60 5 [.complex .f32 9 4, .complex .f32 12 10, .complex .f32 14 i2, .bool (Nat.beq i3 1), .bool (Nat.beq i4 1)] .empty)))) = true := by kernel_rfl
theorem c_4_11 (O : Addr → Option Value) : (allB 14 fun i2 => (allB 2 fun i3 => (allB 2 fun i4 => isTrue (evalCallF (tabOf fs ts es ps) O 100000 60 5 [.complex .f32 9 4, .complex .f32 12 11, .complex .f32 14 i2, .bool (Nat.beq i3 1), .bool (Nat.beq i4 1)] .empty)))) = true := by kernel_rfl
theorem c_5_0 (O : Addr → Option Value) : (allB 14 fun i2 => (allB 2 fun i3 => (allB 2 fun i4 => isTrue (evalCallF (tabOf fs ts es ps) O 100000 60 5 [.complex .f32 9 5, .complex .f32 12 0, .complex .f32 14 i2, .bool (Nat.beq i3 1), .bool (Nat.beq i4 1)] .empty)))) = true := by kernel_rfl
theorem c_5_1 (O : Addr → Option Value) : (allB 14 fun i2 => (allB 2 fun i3 => (allB 2 fun i4 => isTrue (evalCallF (tabOf fs ts es ps) O 100000 60 5 [.complex .f32 9 5, .complex .f32 12 1, .complex .f32 14 i2, .bool (Nat.beq i3 1), .bool (Nat.beq i4 1)] .empty)))) = true := by kernel_rfl
theorem c_5_2 (O : Addr → Option Value) : (allB 14 fun i2 => (allB 2 fun i3 => (allB 2 fun i4 => isTrue (evalCallF (tabOf fs ts es ps) O 100000 60 5 [.complex .f32 9 5, .complex .f32 12 2, .complex .f32 14 i2, .bool (Nat.beq i3 1), .bool (Nat.beq i4 1)] .empty)))) = true := by kernel_rfl
theorem c_5_3 (O : Addr → Option Value) : (allB 14 fun i2 => (allB 2 fun i3 => (allB 2 fun i4 => isTrue (evalCallF (tabOf fs ts es ps) O 100000 60 5 [.complex .f32 9 5, .complex .f32 12 3, .complex .f32 14 i2, .bool (Nat.beq i3 1), .bool (Nat.beq i4 1)] .empty)))) = true := by kernel_rfl
theorem c_5_4 (O : Addr → Option Value) : (allB 14 fun i2 => (allB 2 fun i3 => (allB 2 fun i4 => isTrue (evalCallF (tabOf fs ts es ps) O 100000 60 5 [.complex .f32 9 5, .complex .f32 12 4, .complex .f32 14 i2, .bool (Nat.beq i3 1), .bool (Nat.beq i4 1)] .empty)))) = true := by kernel_rfl
theorem c_5_5 (O : Addr → Option Value) : (allB 14 fun i2 => (allB 2 fun i3 => (allB 2 fun i4 => isTrue (evalCallF (tabOf fs ts es ps) O 100000 60 5 [.complex .f32 9 5, .complex .f32 12 5, .complex .f32 14 i2, .bool (Nat.beq i3 1), .bool (Nat.beq i4 1)] .empty)))) = true := by kernel_rfl
theorem c_5_6 (O : Addr → Option Value) : (allB 14 fun i2 => (allB 2 fun i3 => (allB 2 fun i4 => isTrue (evalCallF (tabOf fs ts es ps) O 100000 60 5 [.complex .f32 9 5, .complex .f32 12 6, .complex .f32 14 i2, .bool (Nat.beq i3 1), .bool (Nat.beq i4 1)] .empty)))) = true := by kernel_rfl
theorem c_5_7 (O : Addr → Option Value) : (allB 14 fun i2 => (allB 2 fun i3 => (allB 2 fun i4 => isTrue (evalCallF (tabOf fs ts es ps) O 100000 60 5 [.complex .f32 9 5, .complex .f32 12 7, .complex .f32 14 i2, .bool (Nat.beq i3 1), .bool (Nat.beq i4 1)] .empty)))) = true := by kernel_rfl
theorem c_5_8 (O : Addr → Option Value) : (allB 14 fun i2 => (allB 2 fun i3 => (allB 2 fun i4 => isTrue (evalCallF (tabOf fs ts es ps) O 100000 60 5 [.complex .f32 9 5, .complex .f32 12 8, .complex .f32 14 i2, .bool (Nat.beq i3 1), .bool (Nat.beq i4 1)] .empty)))) = true := by kernel_rfl
theorem c_5_9 (O : Addr → Option Value) : (allB 14 fun i2 => (allB 2 fun i3 => (allB 2 fun i4 => isTrue (evalCallF (tabOf fs ts es ps) O 100000 60 5 [.complex .f32 9 5, .complex .f32 12 9, .complex .f32 14 i2, .bool (Nat.beq i3 1), .bool (Nat.beq i4 1)] .empty)))) = true := by kernel_rfl
theorem c_5_10 (O : Addr → Option Value) : (allB 14 fun i2 => (allB 2 fun i3 => (allB 2 fun i4 => isTrue (evalCallF (tabOf fs ts es ps) O 100000 60 5 [.complex .f32 9 5, .complex .f32 12 10, .complex .f32 14 i2, .bool (Nat.beq i3 1), .bool (Nat.beq i4 1)] .empty)))) = true := by kernel_rfl
theorem c_5_11 (O : Addr → Option Value) : (allB 14 fun i2 => (allB 2 fun i3 => (allB 2 fun i4 => isTrue (evalCallF (tabOf fs ts es ps) O 100000 60 5 [.complex .f32 9 5, .complex .f32 12 11, .complex .f32 14 i2, .bool (Nat.beq i3 1), .bool (Nat.beq i4 1)] .empty)))) = true := by kernel_rfl
theorem c_6_0 (O : Addr → Option Value) : (allB 14 fun i2 => (allB 2 fun i3 => (allB 2 fun i4 => isTrue (evalCallF (tabOf fs ts es ps) O 100000 60 5 [.complex .f32 9 6, .complex .f32 12 0, .complex .f32 14 i2, .bool (Nat.beq i3 1), .bool (Nat.beq i4 1)] .empty)))) = true := by kernel_rfl
theorem c_6_1 (O : Addr → Option Value) : (allB 14 fun i2 => (allB 2 fun i3 => (allB 2 fun i4 => isTrue (evalCallF (tabOf fs ts es ps) O 100000 60 5 [.complex .f32 9 6, .complex .f32 12 1, .complex .f32 14 i2, .bool (Nat.beq i3 1), .bool (Nat.beq i4 1)] .empty)))) = true := by kernel_rfl
theorem c_6_2 (O : Addr → Option Value) : (allB 14 fun i2 => (allB 2 fun i3 => (allB 2 fun i4 => isTrue (evalCallF (tabOf fs ts es ps) O 100000 60 5 [.complex .f32 9 6, .complex .f32 12 2, .complex .f32 14 i2, .bool (Nat.beq i3 1), .bool (Nat.beq i4 1)] .empty)))) = true := by kernel_rfl
theorem c_6_3 (O : Addr → Option Value) : (allB 14 fun i2 => (allB 2 fun i3 => (allB 2 fun i4 => isTrue (evalCallF (tabOf fs ts es ps) O 100000 60 5 [.complex .f32 9 6, .complex .f32 12 3, .complex .f32 14 i2, .bool (Nat.beq i3 1), .bool (Nat.beq i4 1)] .empty)))) = true := by kernel_rfl
theorem c_6_4 (O : Addr → Option Value) : (allB 14 fun i2 => (allB 2 fun i3 => (allB 2 fun i4 => isTrue (evalCallF (tabOf fs ts es ps) O 100000 60 5 [.complex .f32 9 6, .complex .f32 12 4, .complex .f32 14 i2, .bool (Nat.beq i3 1), .bool (Nat.beq i4 1)] .empty)))) = true := by kernel_rfl
theorem c_6_5 (O : Addr → Option Value) : (allB 14 fun i2 => (allB 2 fun i3 => (allB 2 fun i4 => isTrue (evalCallF (tabOf fs ts es ps) O 100000 60 5 [.complex .f32 9 6, .complex .f32 12 5, .complex .f32 14 i2, .bool (Nat.beq i3 1), .bool (Nat.beq i4 1)] .empty)))) = true := by kernel_rfl
theorem c_6_6 (O : Addr → Option Value) : (allB 14 fun i2 => (allB 2 fun i3 => (allB 2 fun i4 => isTrue (evalCallF (tabOf fs ts es ps) O 100000 60 5 [.complex .f32 9 6, .complex .f32 12 6, .complex .f32 14 i2, .bool (Nat.beq i3 1), .bool (Nat.beq i4 1)] .empty)))) = true := by kernel_rfl
theorem c_6_7 (O : Addr → Option Value) : (allB 14 fun i2 => (allB 2 fun i3 => (allB 2 fun i4 => isTrue (evalCallF (tabOf fs ts es ps) O 100000 60 5 [.complex .f32 9 6, .complex .f32 12 7, .complex .f32 14 i2, .bool (Nat.beq i3 1), .bool (Nat.beq i4 1)] .empty)))) = true := by kernel_rfl
theorem c_6_8 (O : Addr → Option Value) : (allB 14 fun i2 => (allB 2 fun i3 => (allB 2 fun i4 => isTrue (evalCallF (tabOf fs ts es ps) O 100000 60 5 [.complex .f32 9 6, .complex .f32 12 8, .complex .f32 14 i2, .bool (Nat.beq i3 1), .bool (Nat.beq i4 1)] .empty)))) = true := by kernel_rfl
theorem c_6_9 (O : Addr → Option Value) : (allB 14 fun i2 => (allB 2 fun i3 => (allB 2 fun i4 => isTrue (evalCallF (tabOf fs ts es ps) O 100000 60 5 [.complex .f32 9 6, .complex .f32 12 9, .complex .f32 14 i2, .bool (Nat.beq i3 1), .bool (Nat.beq i4 1)] .empty)))) = true := by kernel_rfl
theorem c_6_10 (O : Addr → Option Value) : (allB 14 fun i2 => (allB 2 fun i3 => (allB 2 fun i4 => isTrue (evalCallF (tabOf fs ts es ps) O 100000 60 5 [.complex .f32 9 6, .complex .f32 12 10, .complex .f32 14 i2, .bool (Nat.beq i3 1), .bool (Nat.beq i4 1)] .empty)))) = true := by kernel_rfl
theorem c_6_11 (O : Addr → Option Value) : (allB 14 fun i2 => (allB 2 fun i3 => (allB 2 fun i4 => isTrue (evalCallF (tabOf fs ts es ps) O 100000 60 5 [.complex .f32 9 6, .complex .f32 12 11, .complex .f32 14 i2, .bool (Nat.beq i3 1), .bool (Nat.beq i4 1)] .empty)))) = true := by kernel_rfl
theorem c_7_0 (O : Addr → Option Value) : (allB 14 fun i2 => (allB 2 fun i3 => (allB 2 fun i4 => isTrue (evalCallF (tabOf fs ts es ps) O 100000 60 5 [.complex .f32 9 7, .complex .f32 12 0, .complex .f32 14 i2, .bool (Nat.beq i3 1), .bool (Nat.beq i4 1)] .empty)))) = true := by kernel_rfl
theorem c_7_1 (O : Addr → Option Value) : (allB 14 fun i2 => (allB 2 fun i3 => (allB 2 fun i4 => isTrue (evalCallF (tabOf fs ts es ps) O 100000 60 5 [.complex .f32 9 7, .complex .f32 12 1, .complex .f32 14 i2, .bool (Nat.beq i3 1), .bool (Nat.beq i4 1)] .empty)))) = true := by kernel_rfl
theorem c_7_2 (O : Addr → Option Value) : (allB 14 fun i2 => (allB 2 fun i3 => (allB 2 fun i4 => isTrue (evalCallF (tabOf fs ts es ps) O 100000 60 5 [.complex .f32 9 7, .complex .f32 12 2, .complex .f32 14 i2, .bool (Nat.beq i3 1), .bool (Nat.beq i4 1)] .empty)))) = true := by kernel_rfl
theorem c_7_3 (O : Addr → Option Value) : (allB 14 fun i2 => (allB 2 fun i3 => (allB 2 fun i4 => isTrue (evalCallF (tabOf fs ts es ps) O 100000 60 5 [.complex .f32 9 7, .complex .f32 12 3, .complex .f32 14 i2, .bool (Nat.beq i3 1), .bool (Nat.beq i4 1)] .empty)))) = true := by kernel_rfl
theorem c_7_4 (O : Addr → Option Value) : (allB 14 fun i2 => (allB 2 fun i3 => (allB 2 fun i4 => isTrue (evalCallF (tabOf fs ts es ps) O 100000 60 5 [.complex .f32 9 7, .complex .f32 12 4, .complex .f32 14 i2, .bool (Nat.beq i3 1), .bool (Nat.beq i4 1)] .empty)))) = true := by kernel_rfl
theorem c_7_5 (O : Addr → Option Value) : (allB 14 fun i2 => (allB 2 fun i3 => (allB 2 fun i4 => isTrue (evalCallF (tabOf fs ts es ps) O 100000 60 5 [.complex .f32 9 7, .complex .f32 12 5, .complex .f32 14 i2, .bool (Nat.beq i3 1), .bool (Nat.beq i4 1)] .empty)))) = true := by kernel_rfl
theorem c_7_6 (O : Addr → Option Value) : (allB 14 fun i2 => (allB 2 fun i3 => (allB 2 fun i4 => isTrue (evalCallF (tabOf fs ts es ps) O 100000 60 5 [.complex .f32 9 7, .complex .f32 12 6, .complex .f32 14 i2, .bool (Nat.beq i3 1), .bool (Nat.beq i4 1)] .empty)))) = true := by kernel_rfl
theorem c_7_7 (O : Addr → Option Value) : (allB 14 fun i2 => (allB 2 fun i3 => (allB 2 fun i4 => isTrue (evalCallF (tabOf fs ts es ps) O 100000 60 5 [.complex .f32 9 7, .complex .f32 12 7, .complex .f32 14 i2, .bool (Nat.beq i3 1), .bool (Nat.beq i4 1)] .empty)))) = true := by kernel_rfl
theorem c_7_8 (O : Addr → Option Value) : (allB 14 fun i2 => (allB 2 fun i3 => (allB 2 fun i4 => isTrue (evalCallF (tabOf fs ts es ps) O 100000 60 5 [.complex .f32 9 7, .complex .f32 12 8, .complex .f32 14 i2, .bool (Nat.beq i3 1), .bool (Nat.beq i4 1)] .empty)))) = true := by kernel_rfl
theorem c_7_9 (O : Addr → Option Value) : (allB 14 fun i2 => (allB 2 fun i3 => (allB 2 fun i4 => isTrue (evalCallF (tabOf fs ts es ps) O 100000 60 5 [.complex .f32 9 7, .complex .f32 12 9, .complex .f32 14 i2, .bool (Nat.beq i3 1), .bool (Nat.beq i4 1)] .empty)))) = true := by kernel_rfl
theorem c_7_10 (O : Addr → Option Value) : (allB 14 fun i2 => (allB 2 fun i3 => (allB 2 fun i4 => isTrue (evalCallF (tabOf fs ts es ps) O 100000 60 5 [.complex .f32 9 7, .complex .f32 12 10, .complex .f32 14 i2, .bool (Nat.beq i3 1), .bool (Nat.beq i4 1)] .empty)))) = true := by kernel_rfl
theorem c_7_11 (O : Addr → Option Value) : (allB 14 fun i2 => (allB 2 fun i3 => (allB 2 fun i4 => isTrue (evalCallF (tabOf fs ts es ps) O 100000 60 5 [.complex .f32 9 7, .complex .f32 12 11, .complex .f32 14 i2, .bool (Nat.beq i3 1), .bool (Nat.beq i4 1)] .empty)))) = true := by kernel_rfl
theorem c_8_0 (O : Addr → Option Value) : (allB 14 fun i2 => (allB 2 fun i3 => (allB 2 fun i4 => isTrue (evalCallF (tabOf fs ts es ps) O 100000 60 5 [.complex .f32 9 8, .complex .f32 12 0, .complex .f32 14 i2, .bool (Nat.beq i3 1), .bool (Nat.beq i4 1)] .empty)))) = true := by kernel_rfl
theorem c_8_1 (O : Addr → Option Value) : (allB 14 fun i2 => (allB 2 fun i3 => (allB 2 fun i4 => isTrue (evalCallF (tabOf fs ts es ps) O 100000 60 5 [.complex .f32 9 8, .complex .f32 12 1, .complex .f32 14 i2, .bool (Nat.beq i3 1), .bool (Nat.beq i4 1)] .empty)))) = true := by kernel_rfl
theorem c_8_2 (O : Addr → Option Value) : (allB 14 fun i2 => (allB 2 fun i3 => (allB 2 fun i4 => isTrue (evalCallF (tabOf fs ts es ps) O 100000 60 5 [.complex .f32 9 8, .complex .f32 12 2, .complex .f32 14 i2, .bool (Nat.beq i3 1), .bool (Nat.beq i4 1)] .empty)))) = true := by kernel_rfl
theorem c_8_3 (O : Addr → Option Value) : (allB 14 fun i2 => (allB 2 fun i3 => (allB 2 fun i4 => isTrue (evalCallF (tabOf fs ts es ps) O 100000 60 5 [.complex .f32 9 8, .complex .f32 12 3, .complex .f32 14 i2, .bool (Nat.beq i3 1), .bool (Nat.beq i4 1)] .empty)))) = true := by kernel_rfl
theorem c_8_4 (O : Addr → Option Value) : (allB 14 fun i2 => (allB 2 fun i3 => (allB 2 fun i4 => isTrue (evalCallF (tabOf fs ts es ps) O 100000 60 5 [.complex .f32 9 8, .complex .f32 12 4, .complex .f32 14 i2, .bool (Nat.beq i3 1), .bool (Nat.beq i4 1)] .empty)))) = true := by kernel_rfl
theorem c_8_5 (O : Addr → Option Value) : (allB 14 fun i2 => (allB 2 fun i3 => (allB 2 fun i4 => isTrue (evalCallF (tabOf fs ts es ps) O 100000 60 5 [.complex .f32 9 8, .complex .f32 12 5, .complex .f32 14 i2, .bool (Nat.beq i3 1), .bool (Nat.beq i4 1)] .empty)))) = true := by kernel_rfl
theorem c_8_6 (O : Addr → Option Value) : (allB 14 fun i2 => (allB 2 fun i3 => (allB 2 fun i4 => isTrue (evalCallF (tabOf fs ts es ps) O 100000 60 5 [.complex .f32 9 8, .complex .f32 12 6, .complex .f32 14 i2, .bool (Nat.beq i3 1), .bool (Nat.beq i4 1)] .empty)))) = true := by kernel_rfl
theorem c_8_7 (O : Addr → Option Value) : (allB 14 fun i2 => (allB 2 fun i3 => (allB 2 fun i4 => isTrue (evalCallF (tabOf fs ts es ps) O 100000 60 5 [.complex .f32 9 8, .complex .f32 12 7, .complex .f32 14 i2, .bool (Nat.beq i3 1), .bool (Nat.beq i4 1)] .empty)))) = true := by kernel_rfl
theorem c_8_8 (O : Addr → Option Value) : (allB 14 fun i2 => (allB 2 fun i3 => (allB 2 fun i4 => isTrue (evalCallF (tabOf fs ts es ps) O 100000 60 5 [.complex .f32 9 8, .complex .f32 12 8, .complex .f32 14 i2, .bool (Nat.beq i3 1), .bool (Nat.beq i4 1)] .empty)))) = true := by kernel_rfl
theorem c_8_9 (O : Addr → Option Value) : (allB 14 fun i2 => (allB 2 fun i3 => (allB 2 fun i4 => isTrue (evalCallF (tabOf fs ts es ps) O 100000 60 5 [.complex .f32 9 8, .complex .f32 12 9, .complex .f32 14 i2, .bool (Nat.beq i3 1), .bool (Nat.beq i4 1)] .empty)))) = true := by kernel_rfl
theorem c_8_10 (O : Addr → Option Value) : (allB 14 fun i2 => (allB 2 fun i3 => (allB 2 fun i4 => isTrue (evalCallF (tabOf fs ts es ps) O 100000 60 5 [.complex .f32 9 8, .complex .f32 12 10, .complex .f32 14 i2, .bool (Nat.beq i3 1), .bool (Nat.beq i4 1)] .empty)))) = true := by kernel_rfl
theorem c_8_11 (O : Addr → Option Value) : (allB 14 fun i2 => (allB 2 fun i3 => (allB 2 fun i4 => isTrue (evalCallF (tabOf fs ts es ps) O 100000 60 5 [.complex .f32 9 8, .complex .f32 12 11, .complex .f32 14 i2, .bool (Nat.beq i3 1), .bool (Nat.beq i4 1)] .empty)))) = true := by kernel_rfl
theorem eval (O : Addr → Option Value) (i0 i1 i2 i3 i4 : Nat) (h0 : i0 < 9) (h1 : i1 < 12) (h2 : i2 < 14) (h3 : i3 < 2) (h4 : i4 < 2) : isTrue (evalCallF (tabOf fs ts es ps) O 100000 60 5 [.complex .f32 9 i0, .complex .f32 12 i1, .complex .f32 14 i2, .bool (Nat.beq i3 1), .bool (Nat.beq i4 1)] .empty) = true := by
  match i0, h0 with
  | 0, _ =>
    match i1, h1 with
    | 0, _ =>
      exact allB_spec (allB_spec (allB_spec (c_0_0 O) i2 h2) i3 h3) i4 h4
    | 1, _ =>
      exact allB_spec (allB_spec (allB_spec (c_0_1 O) i2 h2) i3 h3) i4 h4
    | 2, _ =>
      exact allB_spec (allB_spec (allB_spec (c_0_2 O) i2 h2) i3 h3) i4 h4
    | 3, _ =>
      exact allB_spec (allB_spec (allB_spec (c_0_3 O) i2 h2) i3 h3) i4 h4
    | 4, _ =>
      exact allB_spec (allB_spec (allB_spec (c_0_4 O) i2 h2) i3 h3) i4 h4
    | 5, _ =>
      exact allB_spec (allB_spec (allB_spec (c_0_5 O) i2 h2) i3 h3) i4 h4
    | 6, _ =>
      exact allB_spec (allB_spec (allB_spec (c_0_6 O) i2 h2) i3 h3) i4 h4
    | 7, _ =>
      exact allB_spec (allB_spec (allB_spec (c_0_7 O) i2 h2) i3 h3) i4 h4
    | 8, _ =>
      exact allB_spec (allB_spec (allB_spec (c_0_8 O) i2 h2) i3 h3) i4 h4
    | 9, _ =>
      exact allB_spec (allB_spec (allB_spec (c_0_9 O) i2 h2) i3 h3) i4 h4
    | 10, _ =>
      exact allB_spec (allB_spec (allB_spec (c_0_10 O) i2 h2) i3 h3) i4 h4
    | 11, _ =>
      exact allB_spec (allB_spec (allB_spec (c_0_11 O) i2 h2) i3 h3) i4 h4
    | q + 12, h => exact absurd h (by omega)
  | 1, _ =>
    match i1, h1 with
    | 0, _ =>
      exact allB_spec (allB_spec (allB_spec (c_1_0 O) i2 h2) i3 h3) i4 h4
    | 1, _ =>
      exact allB_spec (allB_spec (allB_spec (c_1_1 O) i2 h2) i3 h3) i4 h4
    | 2, _ =>
      exact allB_spec (allB_spec (allB_spec (c_1_2 O) i2 h2) i3 h3) i4 h4
    | 3, _ =>
      exact allB_spec (allB_spec (allB_spec (c_1_3 O) i2 h2) i3 h3) i4 h4
    | 4, _ =>
      exact allB_spec (allB_spec (allB_spec (c_1_4 O) i2 h2) i3 h3) i4 h4
    | 5, _ =>
      exact allB_spec (allB_spec (allB_spec (c_1_5 O) i2 h2) i3 h3) i4 h4
    | 6, _ =>
      exact allB_spec (allB_spec (allB_spec (c_1_6 O) i2 h2) i3 h3) i4 h4
    | 7, _ =>
      exact allB_spec (allB_spec (allB_spec (c_1_7 O) i2 h2) i3 h3) i4 h4
    | 8, _ =>
      exact allB_spec (allB_spec (allB_spec (c_1_8 O) i2 h2) i3 h3) i4 h4
    | 9, _ =>
      exact allB_spec (allB_spec (allB_spec (c_1_9 O) i2 h2) i3 h3) i4 h4
    | 10, _ =>
      exact allB_spec (allB_spec (allB_spec (c_1_10 O) i2 h2) i3 h3) i4 h4
    | 11, _ =>
      exact allB_spec (allB_spec (allB_spec (c_1_11 O) i2 h2) i3 h3) i4 h4
    | q + 12, h => exact absurd h (by omega)
  | 2, _ =>
    match i1, h1 with
    | 0, _ =>
      exact allB_spec (allB_spec (allB_spec (c_2_0 O) i2 h2) i3 h3) i4 h4
    | 1, _ =>
      exact allB_spec (allB_spec (allB_spec (c_2_1 O) i2 h2) i3 h3) i4 h4
    | 2, _ =>
      exact allB_spec (allB_spec (allB_spec (c_2_2 O) i2 h2) i3 h3) i4 h4
    | 3, _ =>
      exact allB_spec (allB_spec (allB_spec (c_2_3 O) i2 h2) i3 h3) i4 h4
    | 4, _ =>
      exact allB_spec (allB_spec (allB_spec (c_2_4 O) i2 h2) i3 h3) i4 h4
    | 5, _ =>
      exact allB_spec (allB_spec (allB_spec (c_2_5 O) i2 h2) i3 h3) i4 h4
    | 6, _ =>
      exact allB_spec (allB_spec (allB_spec (c_2_6 O) i2 h2) i3 h3) i4 h4
    | 7, _ =>
      exact allB_spec (allB_spec (allB_spec (c_2_7 O) i2 h2) i3 h3) i4 h4
    | 8, _ =>
      exact allB_spec (allB_spec (allB_spec (c_2_8 O) i2 h2) i3 h3) i4 h4
    | 9, _ =>
      exact allB_spec (allB_spec (allB_spec (c_2_9 O) i2 h2) i3 h3) i4 h4
    | 10, _ =>
      exact allB_spec (allB_spec (allB_spec (c_2_10 O) i2 h2) i3 h3) i4 h4
    | 11, _ =>
      exact allB_spec (allB_spec (allB_spec (c_2_11 O) i2 h2) i3 h3) i4 h4
    | q + 12, h => exact absurd h (by omega)
  | 3, _ =>
    match i1, h1 with
    | 0, _ =>
      exact allB_spec (allB_spec (allB_spec (c_3_0 O) i2 h2) i3 h3) i4 h4
    | 1, _ =>
      exact allB_spec (allB_spec (allB_spec (c_3_1 O) i2 h2) i3 h3) i4 h4
    | 2, _ =>
      exact allB_spec (allB_spec (allB_spec (c_3_2 O) i2 h2) i3 h3) i4 h4
    | 3, _ =>
      exact allB_spec (allB_spec (allB_spec (c_3_3 O) i2 h2) i3 h3) i4 h4
    | 4, _ =>
      exact allB_spec (allB_spec (allB_spec (c_3_4 O) i2 h2) i3 h3) i4 h4
    | 5, _ =>
      exact allB_spec (allB_spec (allB_spec (c_3_5 O) i2 h2) i3 h3) i4 h4
    | 6, _ =>
      exact allB_spec (allB_spec (allB_spec (c_3_6 O) i2 h2) i3 h3) i4 h4
    | 7, _ =>
      exact allB_spec (allB_spec (allB_spec (c_3_7 O) i2 h2) i3 h3) i4 h4
    | 8, _ =>
      exact allB_spec (allB_spec (allB_spec (c_3_8 O) i2 h2) i3 h3) i4 h4
    | 9, _ =>
      exact allB_spec (allB_spec (allB_spec (c_3_9 O) i2 h2) i3 h3) i4 h4
    | 10, _ =>
      exact allB_spec (allB_spec (allB_spec (c_3_10 O) i2 h2) i3 h3) i4 h4
    | 11, _ =>
      exact allB_spec (allB_spec (allB_spec (c_3_11 O) i2 h2) i3 h3) i4 h4
    | q + 12, h => exact absurd h (by omega)
  | 4, _ =>
    match i1, h1 with
    | 0, _ =>
      exact allB_spec (allB_spec (allB_spec (c_4_0 O) i2 h2) i3 h3) i4 h4
    | 1, _ =>
      exact allB_spec (allB_spec (allB_spec (c_4_1 O) i2 h2) i3 h3) i4 h4
    | 2, _ =>
      exact allB_spec (allB_spec (allB_spec (c_4_2 O) i2 h2) i3 h3) i4 h4
    | 3, _ =>
      exact allB_spec (allB_spec (allB_spec (c_4_3 O) i2 h2) i3 h3) i4 h4
    | 4, _ =>
      exact allB_spec (allB_spec (allB_spec (c_4_4 O) i2 h2) i3 h3) i4 h4
    | 5, _ =>
      exact allB_spec (allB_spec (allB_spec (c_4_5 O) i2 h2) i3 h3) i4 h4
    | 6, _ =>
      exact allB_spec (allB_spec (allB_spec (c_4_6 O) i2 h2) i3 h3) i4 h4
    | 7, _ =>
      exact allB_spec (allB_spec (allB_spec (c_4_7 O) i2 h2) i3 h3) i4 h4
    | 8, _ =>
      exact allB_spec (allB_spec (allB_spec (c_4_8 O) i2 h2) i3 h3) i4 h4
    | 9, _ =>
      exact allB_spec (allB_spec (allB_spec (c_4_9 O) i2 h2) i3 h3) i4 h4
    | 10, _ =>
      exact allB_spec (allB_spec (allB_spec (c_4_10 O) i2 h2) i3 h3) i4 h4
    | 11, _ =>
      exact allB_spec (allB_spec (allB_spec (c_4_11 O) i2 h2) i3 h3) i4 h4
    | q + 12, h => exact absurd h (by omega)
  | 5, _ =>
    match i1, h1 with
    | 0, _ =>
      exact allB_spec (allB_spec (allB_spec (c_5_0 O) i2 h2) i3 h3) i4 h4
    | 1, _ =>
      exact allB_spec (allB_spec (allB_spec (c_5_1 O) i2 h2) i3 h3) i4 h4
    | 2, _ =>
      exact allB_spec (allB_spec (allB_spec (c_5_2 O) i2 h2) i3 h3) i4 h4
    | 3, _ =>
      exact allB_spec (allB_spec (allB_spec (c_5_3 O) i2 h2) i3 h3) i4 h4
    | 4, _ =>
      exact allB_spec (allB_spec (allB_spec (c_5_4 O) i2 h2) i3 h3) i4 h4
    | 5, _ =>
      exact allB_spec (allB_spec (allB_spec (c_5_5 O) i2 h2) i3 h3) i4 h4
    | 6, _ =>
      exact allB_spec (allB_spec (allB_spec (c_5_6 O) i2 h2) i3 h3) i4 h4
    | 7, _ =>
      exact allB_spec (allB_spec (allB_spec (c_5_7 O) i2 h2) i3 h3) i4 h4
    | 8, _ =>
      exact allB_spec (allB_spec (allB_spec (c_5_8 O) i2 h2) i3 h3) i4 h4
    | 9, _ =>
      exact allB_spec (allB_spec (allB_spec (c_5_9 O) i2 h2) i3 h3) i4 h4
    | 10, _ =>
      exact allB_spec (allB_spec (allB_spec (c_5_10 O) i2 h2) i3 h3) i4 h4
    | 11, _ =>
      exact allB_spec (allB_spec (allB_spec (c_5_11 O) i2 h2) i3 h3) i4 h4
    | q + 12, h => exact absurd h (by omega)
  | 6, _ =>
    match i1, h1 with
    | 0, _ =>
      exact allB_spec (allB_spec (allB_spec (c_6_0 O) i2 h2) i3 h3) i4 h4
    | 1, _ =>
      exact allB_spec (allB_spec (allB_spec (c_6_1 O) i2 h2) i3 h3) i4 h4
    | 2, _ =>
      exact allB_spec (allB_spec (allB_spec (c_6_2 O) i2 h2) i3 h3) i4 h4
    | 3, _ =>
      exact allB_spec (allB_spec (allB_spec (c_6_3 O) i2 h2) i3 h3) i4 h4
    | 4, _ =>
      exact allB_spec (allB_spec (allB_spec (c_6_4 O) i2 h2) i3 h3) i4 h4
    | 5, _ =>
      exact allB_spec (allB_spec (allB_spec (c_6_5 O) i2 h2) i3 h3) i4 h4
    | 6, _ =>
      exact allB_spec (allB_spec (allB_spec (c_6_6 O) i2 h2) i3 h3) i4 h4
    | 7, _ =>
      exact allB_spec (allB_spec (allB_spec (c_6_7 O) i2 h2) i3 h3) i4 h4
    | 8, _ =>
      exact allB_spec (allB_spec (allB_spec (c_6_8 O) i2 h2) i3 h3) i4 h4
    | 9, _ =>
      exact allB_spec (allB_spec (allB_spec (c_6_9 O) i2 h2) i3 h3) i4 h4
    | 10, _ =>
      exact allB_spec (allB_spec (allB_spec (c_6_10 O) i2 h2) i3 h3) i4 h4
    | 11, _ =>
      exact allB_spec (allB_spec (allB_spec (c_6_11 O) i2 h2) i3 h3) i4 h4
    | q + 12, h => exact absurd h (by omega)
  | 7, _ =>
    match i1, h1 with
    | 0, _ =>
      exact allB_spec (allB_spec (allB_spec (c_7_0 O) i2 h2) i3 h3) i4 h4
    | 1, _ =>
      exact allB_spec (allB_spec (allB_spec (c_7_1 O) i2 h2) i3 h3) i4 h4
    | 2, _ =>
      exact allB_spec (allB_spec (allB_spec (c_7_2 O) i2 h2) i3 h3) i4 h4
    | 3, _ =>
      exact allB_spec (allB_spec (allB_spec (c_7_3 O) i2 h2) i3 h3) i4 h4
    | 4, _ =>
      exact allB_spec (allB_spec (allB_spec (c_7_4 O) i2 h2) i3 h3) i4 h4
    | 5, _ =>
      exact allB_spec (allB_spec (allB_spec (c_7_5 O) i2 h2) i3 h3) i4 h4
    | 6, _ =>
      exact allB_spec (allB_spec (allB_spec (c_7_6 O) i2 h2) i3 h3) i4 h4
    | 7, _ =>
      exact allB_spec (allB_spec (allB_spec (c_7_7 O) i2 h2) i3 h3) i4 h4
    | 8, _ =>
      exact allB_spec (allB_spec (allB_spec (c_7_8 O) i2 h2) i3 h3) i4 h4
    | 9, _ =>
      exact allB_spec (allB_spec (allB_spec (c_7_9 O) i2 h2) i3 h3) i4 h4
    | 10, _ =>
      exact allB_spec (allB_spec (allB_spec (c_7_10 O) i2 h2) i3 h3) i4 h4
    | 11, _ =>
      exact allB_spec (allB_spec (allB_spec (c_7_11 O) i2 h2) i3 h3) i4 h4
    | q + 12, h => exact absurd h (by omega)
  | 8, _ =>
    match i1, h1 with
    | 0, _ =>
      exact allB_spec (allB_spec (allB_spec (c_8_0 O) i2 h2) i3 h3) i4 h4
    | 1, _ =>
      exact allB_spec (allB_spec (allB_spec (c_8_1 O) i2 h2) i3 h3) i4 h4
    | 2, _ =>
      exact allB_spec (allB_spec (allB_spec (c_8_2 O) i2 h2) i3 h3) i4 h4
    | 3, _ =>
      exact allB_spec (allB_spec (allB_spec (c_8_3 O) i2 h2) i3 h3) i4 h4
    | 4, _ =>
      exact allB_spec (allB_spec (allB_spec (c_8_4 O) i2 h2) i3 h3) i4 h4
    | 5, _ =>
      exact allB_spec (allB_spec (allB_spec (c_8_5 O) i2 h2) i3 h3) i4 h4
    | 6, _ =>
      exact allB_spec (allB_spec (allB_spec (c_8_6 O) i2 h2) i3 h3) i4 h4
    | 7, _ =>
      exact allB_spec (allB_spec (allB_spec (c_8_7 O) i2 h2) i3 h3) i4 h4
    | 8, _ =>
      exact allB_spec (allB_spec (allB_spec (c_8_8 O) i2 h2) i3 h3) i4 h4
    | 9, _ =>
      exact allB_spec (allB_spec (allB_spec (c_8_9 O) i2 h2) i3 h3) i4 h4
    | 10, _ =>
      exact allB_spec (allB_spec (allB_spec (c_8_10 O) i2 h2) i3 h3) i4 h4
    | 11, _ =>
      exact allB_spec (allB_spec (allB_spec (c_8_11 O) i2 h2) i3 h3) i4 h4
    | q + 12, h => exact absurd h (by omega)
  | q + 9, h => exact absurd h (by omega)
theorem holds (a0 : Int) (a1 : Int) (a2 : Int) (a3 : Bool) (a4 : Bool) (w0 : (Lit.int .u8 a0).wf = true) (w1 : (Lit.int .u8 a1).wf = true) (w2 : (Lit.int .u8 a2).wf = true) (W : World) : Calls Tryz.prog 5 #[.int .u8 a0, .int .u8 a1, .int .u8 a2, .bool a3, .bool a4] W fun e W' => e = .returned (.bool true) ∧ Stays W W' :=
  law_rel (lf := 100000) (k := 60) (fn := Tryz.f5) (l' := [.int .u8 a0, .int .u8 a1, .int .u8 a2, .bool a3, .bool a4]) (by kernel_rfl) (by kernel_rfl) (.cons (res_arg w0) (.cons (res_arg w1) (.cons (res_arg w2) (.cons (bool_arg a3) (.cons (bool_arg a4) .nil))))) (eval _ (a0.toNat % 9) (a1.toNat % 12) (a2.toNat % 14) a3.toNat a4.toNat (Nat.mod_lt _ (by decide)) (Nat.mod_lt _ (by decide)) (Nat.mod_lt _ (by decide)) (bool_lt a3) (bool_lt a4))

set_option maxRecDepth 100000 in
theorem contract (H : Type) (enc : TypeId × Value → H) (W : World) (base : Nat) (args : Array Value) (ds gs : List (DataW H)) (before : List MemPlace)
    (hval : ∀ (j : Nat) t v, Tryz.f5.params[j]? = some t → args[j]? = some v → Value.okWide Tryz.prog W .any base t v)
    (hW : DataW.Whole enc Tryz.prog Tryz.f5.params.toList Rows.limitsLocalsSpec.vars false W args.toList ds gs before) :
    Calls Tryz.prog 5 args W fun e W' => ∃ v, e = .returned v ∧ Rows.limitsLocalsSpec.post enc Tryz.prog Tryz.f5 false true false false W args v W' := by
  have hW' := hW
  obtain ⟨p, q, hA0, hV, rfl, hfz, hnd⟩ := hW
  have hA : DataW.TrodAll enc Tryz.prog W 0 (fun _ => true) true Tryz.f5.params.toList args.toList ds p := hA0
  rw [Tryz.params5] at hA hval
  obtain ⟨v0, vs0, d0, ds0, p0, q0, hargs, rfl, rfl, h0, r0⟩ := trodAll_cons hA
  obtain ⟨v1, vs1, d1, ds1, p1, q1, rfl, rfl, rfl, h1, r1⟩ := trodAll_cons r0
  obtain ⟨v2, vs2, d2, ds2, p2, q2, rfl, rfl, rfl, h2, r2⟩ := trodAll_cons r1
  obtain ⟨v3, vs3, d3, ds3, p3, q3, rfl, rfl, rfl, h3, r3⟩ := trodAll_cons r2
  obtain ⟨v4, vs4, d4, ds4, p4, q4, rfl, rfl, rfl, h4, r4⟩ := trodAll_cons r3
  obtain ⟨rfl, rfl, rfl⟩ := trodAll_nil r4
  obtain rfl : args = #[v0, v1, v2, v3, v4] := by cases args; simp_all
  obtain ⟨rfl, rfl⟩ := trodVars_none hV
  obtain ⟨a0, rfl, rfl, rfl, w0⟩ := open_int Tryz.underlying5 (hval 0 5 v0 rfl rfl) h0
  obtain ⟨a1, rfl, rfl, rfl, w1⟩ := open_int Tryz.underlying5 (hval 1 5 v1 rfl rfl) h1
  obtain ⟨a2, rfl, rfl, rfl, w2⟩ := open_int Tryz.underlying5 (hval 2 5 v2 rfl rfl) h2
  obtain ⟨a3, rfl, rfl, rfl⟩ := open_bool Tryz.underlying4 (hval 3 4 v3 rfl rfl) h3
  obtain ⟨a4, rfl, rfl, rfl⟩ := open_bool Tryz.underlying4 (hval 4 4 v4 rfl rfl) h4
  clear hA0
  simp only [List.append_nil] at hW'
  refine (holds a0 a1 a2 a3 a4 w0 w1 w2 W).mono fun e W' ⟨he, hg⟩ => ?_
  subst he
  exact ⟨_, rfl, post_mine (pa := []) (pv := []) hW' hg (fun _ _ _ => (trodAll_cons_mk (shut_bool Tryz.underlying4 _) trodAll_mk0)) (fun sp _ => (trodAll_cons_mk (shut_int Tryz.underlying5 w0) (trodAll_cons_mk (shut_int Tryz.underlying5 w1) (trodAll_cons_mk (shut_int Tryz.underlying5 w2) (trodAll_cons_mk (shut_bool Tryz.underlying4 a3) (trodAll_cons_mk (shut_bool Tryz.underlying4 a4) trodAll_mk0)))))) (fun _ _ => rfl) rfl
    (ok_one (by kernel_rfl) rfl (okWide_bool_mk Tryz.underlying4 _))⟩

set_option maxRecDepth 100000 in
theorem lifted (os : Os) (started : os.Started) (H : Type) (enc : TypeId × Value → H) :
    ReturnsInHanded {} Tryz.checked os 5 .any (Rows.limitsLocalsSpec.pre6 enc Tryz.prog Tryz.f5 Rows.limitsLocalsRow.domain false) (Rows.limitsLocalsSpec.post enc Tryz.prog Tryz.f5 false true false false) := by
  refine returnsInHanded_of_change (C := Tryz.checked) own started (by kernel_rfl) Tryz.func5
    (ChangeSpec.witness6 (enc := enc) (C := Tryz.checked) false ⟨#[], #[.int .u8 0, .int .u8 0, .int .u8 0, .bool false, .bool false], []⟩ 8 (by kernel_rfl) (by kernel_rfl) (by kernel_rfl) (by kernel_rfl)) ?_
  intro W base args ds gs before hval hW _ _
  exact contract H enc W base args ds gs before hval hW

theorem proved : Rows.LimitsLocalsSaid :=
  OpenClaim.holds_of_wide 5 Tryz.f5 rfl rfl rfl rfl rfl rfl rfl ⟨rfl, rfl, rfl, rfl, rfl⟩ rfl rfl rfl rfl rfl (by kernel_rfl) Tryz.func5 (by kernel_rfl)
    (of_decide_eq_true (by kernel_rfl)) (by unfold Func.isWrapper; first | (rw [if_pos (by decide +kernel)]; kernel_rfl) | (rw [if_neg (by decide +kernel)]; exact ⟨rfl, rfl⟩))
    (fun os started H enc _ => lifted os started H enc)
end Go.Proofs.YtopcigniaokjbaaGreat.limitsLocals
