/-
  'bonsai/bonsailaw8.TreeBuiltins' is true, whatever the input. No condition.
-/
import Derived.Test.YtclojigjckfppaaEvTab
import Derived.Test.YtclojigjckfppaaEvStr
import Derived.OpenShut
namespace Go.Proofs.Ytclojigjckfppaa.treeBuiltins
open Go.Ev Go.ChangeShapes Go.WideShapes Go.ChangeAt Go.RowKit
open Go.ChangeMaps (open_string shut_string)
set_option linter.unusedVariables false
set_option linter.unusedSimpArgs false

def nameL : List (List UInt8) := [[79, 98, 106, 101, 99, 116], [70, 97, 117, 108, 116], [78, 117, 108, 108, 70, 97, 117, 108, 116], [66, 111, 117, 110, 100, 115, 70, 97, 117, 108, 116], [67, 97, 115, 116, 70, 97, 117, 108, 116], [90, 101, 114, 111, 70, 97, 117, 108, 116], [83, 105, 122, 101, 70, 97, 117, 108, 116]]
theorem c_0_0 (O : Addr → Option Value) : (allB 7 fun b => isTrue (evalCallF (tabOf fs ts es ps Know.nil) O 100000 60 4 [.complex .f32 7 0, .complex .f32 7 b, .string ⟨⟨[79, 98, 106, 101, 99, 116]⟩⟩] .empty)) = true := by kernel_rfl
theorem c_0_1 (O : Addr → Option Value) : (allB 7 fun b => isTrue (evalCallF (tabOf fs ts es ps Know.nil) O 100000 60 4 [.complex .f32 7 1, .complex .f32 7 b, .string ⟨⟨[79, 98, 106, 101, 99, 116]⟩⟩] .empty)) = true := by kernel_rfl
theorem c_0_2 (O : Addr → Option Value) : (allB 7 fun b => isTrue (evalCallF (tabOf fs ts es ps Know.nil) O 100000 60 4 [.complex .f32 7 2, .complex .f32 7 b, .string ⟨⟨[79, 98, 106, 101, 99, 116]⟩⟩] .empty)) = true := by kernel_rfl
theorem c_0_3 (O : Addr → Option Value) : (allB 7 fun b => isTrue (evalCallF (tabOf fs ts es ps Know.nil) O 100000 60 4 [.complex .f32 7 3, .complex .f32 7 b, .string ⟨⟨[79, 98, 106, 101, 99, 116]⟩⟩] .empty)) = true := by kernel_rfl
theorem c_0_4 (O : Addr → Option Value) : (allB 7 fun b => isTrue (evalCallF (tabOf fs ts es ps Know.nil) O 100000 60 4 [.complex .f32 7 4, .complex .f32 7 b, .string ⟨⟨[79, 98, 106, 101, 99, 116]⟩⟩] .empty)) = true := by kernel_rfl
theorem c_0_5 (O : Addr → Option Value) : (allB 7 fun b => isTrue (evalCallF (tabOf fs ts es ps Know.nil) O 100000 60 4 [.complex .f32 7 5, .complex .f32 7 b, .string ⟨⟨[79, 98, 106, 101, 99, 116]⟩⟩] .empty)) = true := by kernel_rfl
theorem c_0_6 (O : Addr → Option Value) : (allB 7 fun b => isTrue (evalCallF (tabOf fs ts es ps Know.nil) O 100000 60 4 [.complex .f32 7 6, .complex .f32 7 b, .string ⟨⟨[79, 98, 106, 101, 99, 116]⟩⟩] .empty)) = true := by kernel_rfl
theorem c_1_0 (O : Addr → Option Value) : (allB 7 fun b => isTrue (evalCallF (tabOf fs ts es ps Know.nil) O 100000 60 4 [.complex .f32 7 0, .complex .f32 7 b, .string ⟨⟨[70, 97, 117, 108, 116]⟩⟩] .empty)) = true := by kernel_rfl
theorem c_1_1 (O : Addr → Option Value) : (allB 7 fun b => isTrue (evalCallF (tabOf fs ts es ps Know.nil) O 100000 60 4 [.complex .f32 7 1, .complex .f32 7 b, .string ⟨⟨[70, 97, 117, 108, 116]⟩⟩] .empty)) = true := by kernel_rfl
theorem c_1_2 (O : Addr → Option Value) : (allB 7 fun b => isTrue (evalCallF (tabOf fs ts es ps Know.nil) O 100000 60 4 [.complex .f32 7 2, .complex .f32 7 b, .string ⟨⟨[70, 97, 117, 108, 116]⟩⟩] .empty)) = true := by kernel_rfl
theorem c_1_3 (O : Addr → Option Value) : (allB 7 fun b => isTrue (evalCallF (tabOf fs ts es ps Know.nil) O 100000 60 4 [.complex .f32 7 3, .complex .f32 7 b, .string ⟨⟨[70, 97, 117, 108, 116]⟩⟩] .empty)) = true := by kernel_rfl
theorem c_1_4 (O : Addr → Option Value) : (allB 7 fun b => isTrue (evalCallF (tabOf fs ts es ps Know.nil) O 100000 60 4 [.complex .f32 7 4, .complex .f32 7 b, .string ⟨⟨[70, 97, 117, 108, 116]⟩⟩] .empty)) = true := by kernel_rfl
theorem c_1_5 (O : Addr → Option Value) : (allB 7 fun b => isTrue (evalCallF (tabOf fs ts es ps Know.nil) O 100000 60 4 [.complex .f32 7 5, .complex .f32 7 b, .string ⟨⟨[70, 97, 117, 108, 116]⟩⟩] .empty)) = true := by kernel_rfl
theorem c_1_6 (O : Addr → Option Value) : (allB 7 fun b => isTrue (evalCallF (tabOf fs ts es ps Know.nil) O 100000 60 4 [.complex .f32 7 6, .complex .f32 7 b, .string ⟨⟨[70, 97, 117, 108, 116]⟩⟩] .empty)) = true := by kernel_rfl
theorem c_2_0 (O : Addr → Option Value) : (allB 7 fun b => isTrue (evalCallF (tabOf fs ts es ps Know.nil) O 100000 60 4 [.complex .f32 7 0, .complex .f32 7 b, .string ⟨⟨[78, 117, 108, 108, 70, 97, 117, 108, 116]⟩⟩] .empty)) = true := by kernel_rfl
theorem c_2_1 (O : Addr → Option Value) : (allB 7 fun b => isTrue (evalCallF (tabOf fs ts es ps Know.nil) O 100000 60 4 [.complex .f32 7 1, .complex .f32 7 b, .string ⟨⟨[78, 117, 108, 108, 70, 97, 117, 108, 116]⟩⟩] .empty)) = true := by kernel_rfl
theorem c_2_2 (O : Addr → Option Value) : (allB 7 fun b => isTrue (evalCallF (tabOf fs ts es ps Know.nil) O 100000 60 4 [.complex .f32 7 2, .complex .f32 7 b, .string ⟨⟨[78, 117, 108, 108, 70, 97, 117, 108, 116]⟩⟩] .empty)) = true := by kernel_rfl
theorem c_2_3 (O : Addr → Option Value) : (allB 7 fun b => isTrue (evalCallF (tabOf fs ts es ps Know.nil) O 100000 60 4 [.complex .f32 7 3, .complex .f32 7 b, .string ⟨⟨[78, 117, 108, 108, 70, 97, 117, 108, 116]⟩⟩] .empty)) = true := by kernel_rfl
theorem c_2_4 (O : Addr → Option Value) : (allB 7 fun b => isTrue (evalCallF (tabOf fs ts es ps Know.nil) O 100000 60 4 [.complex .f32 7 4, .complex .f32 7 b, .string ⟨⟨[78, 117, 108, 108, 70, 97, 117, 108, 116]⟩⟩] .empty)) = true := by kernel_rfl
theorem c_2_5 (O : Addr → Option Value) : (allB 7 fun b => isTrue (evalCallF (tabOf fs ts es ps Know.nil) O 100000 60 4 [.complex .f32 7 5, .complex .f32 7 b, .string ⟨⟨[78, 117, 108, 108, 70, 97, 117, 108, 116]⟩⟩] .empty)) = true := by kernel_rfl
theorem c_2_6 (O : Addr → Option Value) : (allB 7 fun b => isTrue (evalCallF (tabOf fs ts es ps Know.nil) O 100000 60 4 [.complex .f32 7 6, .complex .f32 7 b, .string ⟨⟨[78, 117, 108, 108, 70, 97, 117, 108, 116]⟩⟩] .empty)) = true := by kernel_rfl
theorem c_3_0 (O : Addr → Option Value) : (allB 7 fun b => isTrue (evalCallF (tabOf fs ts es ps Know.nil) O 100000 60 4 [.complex .f32 7 0, .complex .f32 7 b, .string ⟨⟨[66, 111, 117, 110, 100, 115, 70, 97, 117, 108, 116]⟩⟩] .empty)) = true := by kernel_rfl
theorem c_3_1 (O : Addr → Option Value) : (allB 7 fun b => isTrue (evalCallF (tabOf fs ts es ps Know.nil) O 100000 60 4 [.complex .f32 7 1, .complex .f32 7 b, .string ⟨⟨[66, 111, 117, 110, 100, 115, 70, 97, 117, 108, 116]⟩⟩] .empty)) = true := by kernel_rfl
theorem c_3_2 (O : Addr → Option Value) : (allB 7 fun b => isTrue (evalCallF (tabOf fs ts es ps Know.nil) O 100000 60 4 [.complex .f32 7 2, .complex .f32 7 b, .string ⟨⟨[66, 111, 117, 110, 100, 115, 70, 97, 117, 108, 116]⟩⟩] .empty)) = true := by kernel_rfl
theorem c_3_3 (O : Addr → Option Value) : (allB 7 fun b => isTrue (evalCallF (tabOf fs ts es ps Know.nil) O 100000 60 4 [.complex .f32 7 3, .complex .f32 7 b, .string ⟨⟨[66, 111, 117, 110, 100, 115, 70, 97, 117, 108, 116]⟩⟩] .empty)) = true := by kernel_rfl
theorem c_3_4 (O : Addr → Option Value) : (allB 7 fun b => isTrue (evalCallF (tabOf fs ts es ps Know.nil) O 100000 60 4 [.complex .f32 7 4, .complex .f32 7 b, .string ⟨⟨[66, 111, 117, 110, 100, 115, 70, 97, 117, 108, 116]⟩⟩] .empty)) = true := by kernel_rfl
theorem c_3_5 (O : Addr → Option Value) : (allB 7 fun b => isTrue (evalCallF (tabOf fs ts es ps Know.nil) O 100000 60 4 [.complex .f32 7 5, .complex .f32 7 b, .string ⟨⟨[66, 111, 117, 110, 100, 115, 70, 97, 117, 108, 116]⟩⟩] .empty)) = true := by kernel_rfl
theorem c_3_6 (O : Addr → Option Value) : (allB 7 fun b => isTrue (evalCallF (tabOf fs ts es ps Know.nil) O 100000 60 4 [.complex .f32 7 6, .complex .f32 7 b, .string ⟨⟨[66, 111, 117, 110, 100, 115, 70, 97, 117, 108, 116]⟩⟩] .empty)) = true := by kernel_rfl
theorem c_4_0 (O : Addr → Option Value) : (allB 7 fun b => isTrue (evalCallF (tabOf fs ts es ps Know.nil) O 100000 60 4 [.complex .f32 7 0, .complex .f32 7 b, .string ⟨⟨[67, 97, 115, 116, 70, 97, 117, 108, 116]⟩⟩] .empty)) = true := by kernel_rfl
theorem c_4_1 (O : Addr → Option Value) : (allB 7 fun b => isTrue (evalCallF (tabOf fs ts es ps Know.nil) O 100000 60 4 [.complex .f32 7 1, .complex .f32 7 b, .string ⟨⟨[67, 97, 115, 116, 70, 97, 117, 108, 116]⟩⟩] .empty)) = true := by kernel_rfl
theorem c_4_2 (O : Addr → Option Value) : (allB 7 fun b => isTrue (evalCallF (tabOf fs ts es ps Know.nil) O 100000 60 4 [.complex .f32 7 2, .complex .f32 7 b, .string ⟨⟨[67, 97, 115, 116, 70, 97, 117, 108, 116]⟩⟩] .empty)) = true := by kernel_rfl
theorem c_4_3 (O : Addr → Option Value) : (allB 7 fun b => isTrue (evalCallF (tabOf fs ts es ps Know.nil) O 100000 60 4 [.complex .f32 7 3, .complex .f32 7 b, .string ⟨⟨[67, 97, 115, 116, 70, 97, 117, 108, 116]⟩⟩] .empty)) = true := by kernel_rfl
theorem c_4_4 (O : Addr → Option Value) : (allB 7 fun b => isTrue (evalCallF (tabOf fs ts es ps Know.nil) O 100000 60 4 [.complex .f32 7 4, .complex .f32 7 b, .string ⟨⟨[67, 97, 115, 116, 70, 97, 117, 108, 116]⟩⟩] .empty)) = true := by kernel_rfl
theorem c_4_5 (O : Addr → Option Value) : (allB 7 fun b => isTrue (evalCallF (tabOf fs ts es ps Know.nil) O 100000 60 4 [.complex .f32 7 5, .complex .f32 7 b, .string ⟨⟨[67, 97, 115, 116, 70, 97, 117, 108, 116]⟩⟩] .empty)) = true := by kernel_rfl
theorem c_4_6 (O : Addr → Option Value) : (allB 7 fun b => isTrue (evalCallF (tabOf fs ts es ps Know.nil) O 100000 60 4 [.complex .f32 7 6, .complex .f32 7 b, .string ⟨⟨[67, 97, 115, 116, 70, 97, 117, 108, 116]⟩⟩] .empty)) = true := by kernel_rfl
theorem c_5_0 (O : Addr → Option Value) : (allB 7 fun b => isTrue (evalCallF (tabOf fs ts es ps Know.nil) O 100000 60 4 [.complex .f32 7 0, .complex .f32 7 b, .string ⟨⟨[90, 101, 114, 111, 70, 97, 117, 108, 116]⟩⟩] .empty)) = true := by kernel_rfl
theorem c_5_1 (O : Addr → Option Value) : (allB 7 fun b => isTrue (evalCallF (tabOf fs ts es ps Know.nil) O 100000 60 4 [.complex .f32 7 1, .complex .f32 7 b, .string ⟨⟨[90, 101, 114, 111, 70, 97, 117, 108, 116]⟩⟩] .empty)) = true := by kernel_rfl
theorem c_5_2 (O : Addr → Option Value) : (allB 7 fun b => isTrue (evalCallF (tabOf fs ts es ps Know.nil) O 100000 60 4 [.complex .f32 7 2, .complex .f32 7 b, .string ⟨⟨[90, 101, 114, 111, 70, 97, 117, 108, 116]⟩⟩] .empty)) = true := by kernel_rfl
theorem c_5_3 (O : Addr → Option Value) : (allB 7 fun b => isTrue (evalCallF (tabOf fs ts es ps Know.nil) O 100000 60 4 [.complex .f32 7 3, .complex .f32 7 b, .string ⟨⟨[90, 101, 114, 111, 70, 97, 117, 108, 116]⟩⟩] .empty)) = true := by kernel_rfl
theorem c_5_4 (O : Addr → Option Value) : (allB 7 fun b => isTrue (evalCallF (tabOf fs ts es ps Know.nil) O 100000 60 4 [.complex .f32 7 4, .complex .f32 7 b, .string ⟨⟨[90, 101, 114, 111, 70, 97, 117, 108, 116]⟩⟩] .empty)) = true := by kernel_rfl
theorem c_5_5 (O : Addr → Option Value) : (allB 7 fun b => isTrue (evalCallF (tabOf fs ts es ps Know.nil) O 100000 60 4 [.complex .f32 7 5, .complex .f32 7 b, .string ⟨⟨[90, 101, 114, 111, 70, 97, 117, 108, 116]⟩⟩] .empty)) = true := by kernel_rfl
theorem c_5_6 (O : Addr → Option Value) : (allB 7 fun b => isTrue (evalCallF (tabOf fs ts es ps Know.nil) O 100000 60 4 [.complex .f32 7 6, .complex .f32 7 b, .string ⟨⟨[90, 101, 114, 111, 70, 97, 117, 108, 116]⟩⟩] .empty)) = true := by kernel_rfl
theorem c_6_0 (O : Addr → Option Value) : (allB 7 fun b => isTrue (evalCallF (tabOf fs ts es ps Know.nil) O 100000 60 4 [.complex .f32 7 0, .complex .f32 7 b, .string ⟨⟨[83, 105, 122, 101, 70, 97, 117, 108, 116]⟩⟩] .empty)) = true := by kernel_rfl
theorem c_6_1 (O : Addr → Option Value) : (allB 7 fun b => isTrue (evalCallF (tabOf fs ts es ps Know.nil) O 100000 60 4 [.complex .f32 7 1, .complex .f32 7 b, .string ⟨⟨[83, 105, 122, 101, 70, 97, 117, 108, 116]⟩⟩] .empty)) = true := by kernel_rfl
theorem c_6_2 (O : Addr → Option Value) : (allB 7 fun b => isTrue (evalCallF (tabOf fs ts es ps Know.nil) O 100000 60 4 [.complex .f32 7 2, .complex .f32 7 b, .string ⟨⟨[83, 105, 122, 101, 70, 97, 117, 108, 116]⟩⟩] .empty)) = true := by kernel_rfl
theorem c_6_3 (O : Addr → Option Value) : (allB 7 fun b => isTrue (evalCallF (tabOf fs ts es ps Know.nil) O 100000 60 4 [.complex .f32 7 3, .complex .f32 7 b, .string ⟨⟨[83, 105, 122, 101, 70, 97, 117, 108, 116]⟩⟩] .empty)) = true := by kernel_rfl
theorem c_6_4 (O : Addr → Option Value) : (allB 7 fun b => isTrue (evalCallF (tabOf fs ts es ps Know.nil) O 100000 60 4 [.complex .f32 7 4, .complex .f32 7 b, .string ⟨⟨[83, 105, 122, 101, 70, 97, 117, 108, 116]⟩⟩] .empty)) = true := by kernel_rfl
theorem c_6_5 (O : Addr → Option Value) : (allB 7 fun b => isTrue (evalCallF (tabOf fs ts es ps Know.nil) O 100000 60 4 [.complex .f32 7 5, .complex .f32 7 b, .string ⟨⟨[83, 105, 122, 101, 70, 97, 117, 108, 116]⟩⟩] .empty)) = true := by kernel_rfl
theorem c_6_6 (O : Addr → Option Value) : (allB 7 fun b => isTrue (evalCallF (tabOf fs ts es ps Know.nil) O 100000 60 4 [.complex .f32 7 6, .complex .f32 7 b, .string ⟨⟨[83, 105, 122, 101, 70, 97, 117, 108, 116]⟩⟩] .empty)) = true := by kernel_rfl
theorem c_false_0 (O : Addr → Option Value) (s : ByteArray) : (allB 7 fun b => isTrue (evalCallF (tabOf fs ts es ps (strKnow nameL 60 false s)) O 100000 60 4 [.complex .f32 7 0, .complex .f32 7 b, .chan (some 0)] .empty)) = true := by kernel_rfl
theorem c_false_1 (O : Addr → Option Value) (s : ByteArray) : (allB 7 fun b => isTrue (evalCallF (tabOf fs ts es ps (strKnow nameL 60 false s)) O 100000 60 4 [.complex .f32 7 1, .complex .f32 7 b, .chan (some 0)] .empty)) = true := by kernel_rfl
theorem c_false_2 (O : Addr → Option Value) (s : ByteArray) : (allB 7 fun b => isTrue (evalCallF (tabOf fs ts es ps (strKnow nameL 60 false s)) O 100000 60 4 [.complex .f32 7 2, .complex .f32 7 b, .chan (some 0)] .empty)) = true := by kernel_rfl
theorem c_false_3 (O : Addr → Option Value) (s : ByteArray) : (allB 7 fun b => isTrue (evalCallF (tabOf fs ts es ps (strKnow nameL 60 false s)) O 100000 60 4 [.complex .f32 7 3, .complex .f32 7 b, .chan (some 0)] .empty)) = true := by kernel_rfl
theorem c_false_4 (O : Addr → Option Value) (s : ByteArray) : (allB 7 fun b => isTrue (evalCallF (tabOf fs ts es ps (strKnow nameL 60 false s)) O 100000 60 4 [.complex .f32 7 4, .complex .f32 7 b, .chan (some 0)] .empty)) = true := by kernel_rfl
theorem c_false_5 (O : Addr → Option Value) (s : ByteArray) : (allB 7 fun b => isTrue (evalCallF (tabOf fs ts es ps (strKnow nameL 60 false s)) O 100000 60 4 [.complex .f32 7 5, .complex .f32 7 b, .chan (some 0)] .empty)) = true := by kernel_rfl
theorem c_false_6 (O : Addr → Option Value) (s : ByteArray) : (allB 7 fun b => isTrue (evalCallF (tabOf fs ts es ps (strKnow nameL 60 false s)) O 100000 60 4 [.complex .f32 7 6, .complex .f32 7 b, .chan (some 0)] .empty)) = true := by kernel_rfl
theorem c_true_0 (O : Addr → Option Value) (s : ByteArray) : (allB 7 fun b => isTrue (evalCallF (tabOf fs ts es ps (strKnow nameL 60 true s)) O 100000 60 4 [.complex .f32 7 0, .complex .f32 7 b, .chan (some 0)] .empty)) = true := by kernel_rfl
theorem c_true_1 (O : Addr → Option Value) (s : ByteArray) : (allB 7 fun b => isTrue (evalCallF (tabOf fs ts es ps (strKnow nameL 60 true s)) O 100000 60 4 [.complex .f32 7 1, .complex .f32 7 b, .chan (some 0)] .empty)) = true := by kernel_rfl
theorem c_true_2 (O : Addr → Option Value) (s : ByteArray) : (allB 7 fun b => isTrue (evalCallF (tabOf fs ts es ps (strKnow nameL 60 true s)) O 100000 60 4 [.complex .f32 7 2, .complex .f32 7 b, .chan (some 0)] .empty)) = true := by kernel_rfl
theorem c_true_3 (O : Addr → Option Value) (s : ByteArray) : (allB 7 fun b => isTrue (evalCallF (tabOf fs ts es ps (strKnow nameL 60 true s)) O 100000 60 4 [.complex .f32 7 3, .complex .f32 7 b, .chan (some 0)] .empty)) = true := by kernel_rfl
theorem c_true_4 (O : Addr → Option Value) (s : ByteArray) : (allB 7 fun b => isTrue (evalCallF (tabOf fs ts es ps (strKnow nameL 60 true s)) O 100000 60 4 [.complex .f32 7 4, .complex .f32 7 b, .chan (some 0)] .empty)) = true := by kernel_rfl
theorem c_true_5 (O : Addr → Option Value) (s : ByteArray) : (allB 7 fun b => isTrue (evalCallF (tabOf fs ts es ps (strKnow nameL 60 true s)) O 100000 60 4 [.complex .f32 7 5, .complex .f32 7 b, .chan (some 0)] .empty)) = true := by kernel_rfl
theorem c_true_6 (O : Addr → Option Value) (s : ByteArray) : (allB 7 fun b => isTrue (evalCallF (tabOf fs ts es ps (strKnow nameL 60 true s)) O 100000 60 4 [.complex .f32 7 6, .complex .f32 7 b, .chan (some 0)] .empty)) = true := by kernel_rfl
theorem e_0 (O : Addr → Option Value) (a b : Nat) (ha : a < 7) (hb : b < 7) : isTrue (evalCallF (tabOf fs ts es ps Know.nil) O 100000 60 4 [.complex .f32 7 a, .complex .f32 7 b, .string ⟨⟨[79, 98, 106, 101, 99, 116]⟩⟩] .empty) = true := by
  match a, ha with
  | 0, _ => exact allB_spec (c_0_0 O) b hb
  | 1, _ => exact allB_spec (c_0_1 O) b hb
  | 2, _ => exact allB_spec (c_0_2 O) b hb
  | 3, _ => exact allB_spec (c_0_3 O) b hb
  | 4, _ => exact allB_spec (c_0_4 O) b hb
  | 5, _ => exact allB_spec (c_0_5 O) b hb
  | 6, _ => exact allB_spec (c_0_6 O) b hb
  | q + 7, h => exact absurd h (by omega)
theorem e_1 (O : Addr → Option Value) (a b : Nat) (ha : a < 7) (hb : b < 7) : isTrue (evalCallF (tabOf fs ts es ps Know.nil) O 100000 60 4 [.complex .f32 7 a, .complex .f32 7 b, .string ⟨⟨[70, 97, 117, 108, 116]⟩⟩] .empty) = true := by
  match a, ha with
  | 0, _ => exact allB_spec (c_1_0 O) b hb
  | 1, _ => exact allB_spec (c_1_1 O) b hb
  | 2, _ => exact allB_spec (c_1_2 O) b hb
  | 3, _ => exact allB_spec (c_1_3 O) b hb
  | 4, _ => exact allB_spec (c_1_4 O) b hb
  | 5, _ => exact allB_spec (c_1_5 O) b hb
  | 6, _ => exact allB_spec (c_1_6 O) b hb
  | q + 7, h => exact absurd h (by omega)
theorem e_2 (O : Addr → Option Value) (a b : Nat) (ha : a < 7) (hb : b < 7) : isTrue (evalCallF (tabOf fs ts es ps Know.nil) O 100000 60 4 [.complex .f32 7 a, .complex .f32 7 b, .string ⟨⟨[78, 117, 108, 108, 70, 97, 117, 108, 116]⟩⟩] .empty) = true := by
  match a, ha with
  | 0, _ => exact allB_spec (c_2_0 O) b hb
  | 1, _ => exact allB_spec (c_2_1 O) b hb
  | 2, _ => exact allB_spec (c_2_2 O) b hb
  | 3, _ => exact allB_spec (c_2_3 O) b hb
  | 4, _ => exact allB_spec (c_2_4 O) b hb
  | 5, _ => exact allB_spec (c_2_5 O) b hb
  | 6, _ => exact allB_spec (c_2_6 O) b hb
  | q + 7, h => exact absurd h (by omega)
theorem e_3 (O : Addr → Option Value) (a b : Nat) (ha : a < 7) (hb : b < 7) : isTrue (evalCallF (tabOf fs ts es ps Know.nil) O 100000 60 4 [.complex .f32 7 a, .complex .f32 7 b, .string ⟨⟨[66, 111, 117, 110, 100, 115, 70, 97, 117, 108, 116]⟩⟩] .empty) = true := by
  match a, ha with
  | 0, _ => exact allB_spec (c_3_0 O) b hb
  | 1, _ => exact allB_spec (c_3_1 O) b hb
  | 2, _ => exact allB_spec (c_3_2 O) b hb
  | 3, _ => exact allB_spec (c_3_3 O) b hb
  | 4, _ => exact allB_spec (c_3_4 O) b hb
  | 5, _ => exact allB_spec (c_3_5 O) b hb
  | 6, _ => exact allB_spec (c_3_6 O) b hb
  | q + 7, h => exact absurd h (by omega)
theorem e_4 (O : Addr → Option Value) (a b : Nat) (ha : a < 7) (hb : b < 7) : isTrue (evalCallF (tabOf fs ts es ps Know.nil) O 100000 60 4 [.complex .f32 7 a, .complex .f32 7 b, .string ⟨⟨[67, 97, 115, 116, 70, 97, 117, 108, 116]⟩⟩] .empty) = true := by
  match a, ha with
  | 0, _ => exact allB_spec (c_4_0 O) b hb
  | 1, _ => exact allB_spec (c_4_1 O) b hb
  | 2, _ => exact allB_spec (c_4_2 O) b hb
  | 3, _ => exact allB_spec (c_4_3 O) b hb
  | 4, _ => exact allB_spec (c_4_4 O) b hb
  | 5, _ => exact allB_spec (c_4_5 O) b hb
  | 6, _ => exact allB_spec (c_4_6 O) b hb
  | q + 7, h => exact absurd h (by omega)
theorem e_5 (O : Addr → Option Value) (a b : Nat) (ha : a < 7) (hb : b < 7) : isTrue (evalCallF (tabOf fs ts es ps Know.nil) O 100000 60 4 [.complex .f32 7 a, .complex .f32 7 b, .string ⟨⟨[90, 101, 114, 111, 70, 97, 117, 108, 116]⟩⟩] .empty) = true := by
  match a, ha with
  | 0, _ => exact allB_spec (c_5_0 O) b hb
  | 1, _ => exact allB_spec (c_5_1 O) b hb
  | 2, _ => exact allB_spec (c_5_2 O) b hb
  | 3, _ => exact allB_spec (c_5_3 O) b hb
  | 4, _ => exact allB_spec (c_5_4 O) b hb
  | 5, _ => exact allB_spec (c_5_5 O) b hb
  | 6, _ => exact allB_spec (c_5_6 O) b hb
  | q + 7, h => exact absurd h (by omega)
theorem e_6 (O : Addr → Option Value) (a b : Nat) (ha : a < 7) (hb : b < 7) : isTrue (evalCallF (tabOf fs ts es ps Know.nil) O 100000 60 4 [.complex .f32 7 a, .complex .f32 7 b, .string ⟨⟨[83, 105, 122, 101, 70, 97, 117, 108, 116]⟩⟩] .empty) = true := by
  match a, ha with
  | 0, _ => exact allB_spec (c_6_0 O) b hb
  | 1, _ => exact allB_spec (c_6_1 O) b hb
  | 2, _ => exact allB_spec (c_6_2 O) b hb
  | 3, _ => exact allB_spec (c_6_3 O) b hb
  | 4, _ => exact allB_spec (c_6_4 O) b hb
  | 5, _ => exact allB_spec (c_6_5 O) b hb
  | 6, _ => exact allB_spec (c_6_6 O) b hb
  | q + 7, h => exact absurd h (by omega)
theorem e_false (O : Addr → Option Value) (s : ByteArray) (a b : Nat) (ha : a < 7) (hb : b < 7) : isTrue (evalCallF (tabOf fs ts es ps (strKnow nameL 60 false s)) O 100000 60 4 [.complex .f32 7 a, .complex .f32 7 b, .chan (some 0)] .empty) = true := by
  match a, ha with
  | 0, _ => exact allB_spec (c_false_0 O s) b hb
  | 1, _ => exact allB_spec (c_false_1 O s) b hb
  | 2, _ => exact allB_spec (c_false_2 O s) b hb
  | 3, _ => exact allB_spec (c_false_3 O s) b hb
  | 4, _ => exact allB_spec (c_false_4 O s) b hb
  | 5, _ => exact allB_spec (c_false_5 O s) b hb
  | 6, _ => exact allB_spec (c_false_6 O s) b hb
  | q + 7, h => exact absurd h (by omega)
theorem e_true (O : Addr → Option Value) (s : ByteArray) (a b : Nat) (ha : a < 7) (hb : b < 7) : isTrue (evalCallF (tabOf fs ts es ps (strKnow nameL 60 true s)) O 100000 60 4 [.complex .f32 7 a, .complex .f32 7 b, .chan (some 0)] .empty) = true := by
  match a, ha with
  | 0, _ => exact allB_spec (c_true_0 O s) b hb
  | 1, _ => exact allB_spec (c_true_1 O s) b hb
  | 2, _ => exact allB_spec (c_true_2 O s) b hb
  | 3, _ => exact allB_spec (c_true_3 O s) b hb
  | 4, _ => exact allB_spec (c_true_4 O s) b hb
  | 5, _ => exact allB_spec (c_true_5 O s) b hb
  | 6, _ => exact allB_spec (c_true_6 O s) b hb
  | q + 7, h => exact absurd h (by omega)
theorem holds (a0 a1 : Int) (a2 : ByteArray) (w0 : (Lit.int .u8 a0).wf = true) (w1 : (Lit.int .u8 a1).wf = true) (w2 : a2.size ≤ maxLen) (W : World) : Calls Try.prog 4 #[.int .u8 a0, .int .u8 a1, .string a2] W fun e W' => e = .returned (.bool true) ∧ Stays W W' := by
  cases hm : memS a2.data.toList nameL with
  | true =>
    have h := memS_iff.1 hm
    simp only [nameL, List.mem_cons, List.not_mem_nil, or_false] at h
    rcases h with h | h | h | h | h | h | h
    · obtain rfl := str_is h
      exact law_rel Know.nil_ok (lf := 100000) (k := 60) (fn := Try.f4) (l' := [.int .u8 a0, .int .u8 a1, .string ⟨⟨[79, 98, 106, 101, 99, 116]⟩⟩]) (by kernel_rfl) (by kernel_rfl) (.cons (res_arg w0) (.cons (res_arg w1) (.cons (.flat rfl) .nil))) (e_0 _ (a0.toNat % 7) (a1.toNat % 7) (Nat.mod_lt _ (by decide)) (Nat.mod_lt _ (by decide)))
    · obtain rfl := str_is h
      exact law_rel Know.nil_ok (lf := 100000) (k := 60) (fn := Try.f4) (l' := [.int .u8 a0, .int .u8 a1, .string ⟨⟨[70, 97, 117, 108, 116]⟩⟩]) (by kernel_rfl) (by kernel_rfl) (.cons (res_arg w0) (.cons (res_arg w1) (.cons (.flat rfl) .nil))) (e_1 _ (a0.toNat % 7) (a1.toNat % 7) (Nat.mod_lt _ (by decide)) (Nat.mod_lt _ (by decide)))
    · obtain rfl := str_is h
      exact law_rel Know.nil_ok (lf := 100000) (k := 60) (fn := Try.f4) (l' := [.int .u8 a0, .int .u8 a1, .string ⟨⟨[78, 117, 108, 108, 70, 97, 117, 108, 116]⟩⟩]) (by kernel_rfl) (by kernel_rfl) (.cons (res_arg w0) (.cons (res_arg w1) (.cons (.flat rfl) .nil))) (e_2 _ (a0.toNat % 7) (a1.toNat % 7) (Nat.mod_lt _ (by decide)) (Nat.mod_lt _ (by decide)))
    · obtain rfl := str_is h
      exact law_rel Know.nil_ok (lf := 100000) (k := 60) (fn := Try.f4) (l' := [.int .u8 a0, .int .u8 a1, .string ⟨⟨[66, 111, 117, 110, 100, 115, 70, 97, 117, 108, 116]⟩⟩]) (by kernel_rfl) (by kernel_rfl) (.cons (res_arg w0) (.cons (res_arg w1) (.cons (.flat rfl) .nil))) (e_3 _ (a0.toNat % 7) (a1.toNat % 7) (Nat.mod_lt _ (by decide)) (Nat.mod_lt _ (by decide)))
    · obtain rfl := str_is h
      exact law_rel Know.nil_ok (lf := 100000) (k := 60) (fn := Try.f4) (l' := [.int .u8 a0, .int .u8 a1, .string ⟨⟨[67, 97, 115, 116, 70, 97, 117, 108, 116]⟩⟩]) (by kernel_rfl) (by kernel_rfl) (.cons (res_arg w0) (.cons (res_arg w1) (.cons (.flat rfl) .nil))) (e_4 _ (a0.toNat % 7) (a1.toNat % 7) (Nat.mod_lt _ (by decide)) (Nat.mod_lt _ (by decide)))
    · obtain rfl := str_is h
      exact law_rel Know.nil_ok (lf := 100000) (k := 60) (fn := Try.f4) (l' := [.int .u8 a0, .int .u8 a1, .string ⟨⟨[90, 101, 114, 111, 70, 97, 117, 108, 116]⟩⟩]) (by kernel_rfl) (by kernel_rfl) (.cons (res_arg w0) (.cons (res_arg w1) (.cons (.flat rfl) .nil))) (e_5 _ (a0.toNat % 7) (a1.toNat % 7) (Nat.mod_lt _ (by decide)) (Nat.mod_lt _ (by decide)))
    · obtain rfl := str_is h
      exact law_rel Know.nil_ok (lf := 100000) (k := 60) (fn := Try.f4) (l' := [.int .u8 a0, .int .u8 a1, .string ⟨⟨[83, 105, 122, 101, 70, 97, 117, 108, 116]⟩⟩]) (by kernel_rfl) (by kernel_rfl) (.cons (res_arg w0) (.cons (res_arg w1) (.cons (.flat rfl) .nil))) (e_6 _ (a0.toNat % 7) (a1.toNat % 7) (Nat.mod_lt _ (by decide)) (Nat.mod_lt _ (by decide)))
  | false =>
    cases hl : decide (60 < a2.data.toList.length) with
    | false => exact law_rel (strKnow_ok hm hl) (lf := 100000) (k := 60) (fn := Try.f4) (l' := [.int .u8 a0, .int .u8 a1, .string a2]) (by kernel_rfl) (by kernel_rfl) (.cons (res_arg w0) (.cons (res_arg w1) (.cons str_arg .nil))) (e_false _ a2 (a0.toNat % 7) (a1.toNat % 7) (Nat.mod_lt _ (by decide)) (Nat.mod_lt _ (by decide)))
    | true => exact law_rel (strKnow_ok hm hl) (lf := 100000) (k := 60) (fn := Try.f4) (l' := [.int .u8 a0, .int .u8 a1, .string a2]) (by kernel_rfl) (by kernel_rfl) (.cons (res_arg w0) (.cons (res_arg w1) (.cons str_arg .nil))) (e_true _ a2 (a0.toNat % 7) (a1.toNat % 7) (Nat.mod_lt _ (by decide)) (Nat.mod_lt _ (by decide)))

set_option maxRecDepth 100000 in
theorem contract (H : Type) (enc : TypeId × Value → H) (W : World) (base : Nat) (args : Array Value) (ds gs : List (DataW H)) (before : List MemPlace)
    (hval : ∀ (j : Nat) t v, Try.f4.params[j]? = some t → args[j]? = some v → Value.okWide Try.prog W .any base t v)
    (hW : DataW.Whole enc Try.prog Try.f4.params.toList Rows.treeBuiltinsSpec.vars false W args.toList ds gs before) :
    Calls Try.prog 4 args W fun e W' => ∃ v, e = .returned v ∧ Rows.treeBuiltinsSpec.post enc Try.prog Try.f4 false true false false W args v W' := by
  have hW' := hW
  obtain ⟨p, q, hA0, hV, rfl, hfz, hnd⟩ := hW
  have hA : DataW.TrodAll enc Try.prog W 0 (fun _ => true) true Try.f4.params.toList args.toList ds p := hA0
  rw [Try.params4] at hA hval
  obtain ⟨v0, vs0, d0, ds0, p0, q0, hargs, rfl, rfl, h0, r0⟩ := trodAll_cons hA
  obtain ⟨v1, vs1, d1, ds1, p1, q1, rfl, rfl, rfl, h1, r1⟩ := trodAll_cons r0
  obtain ⟨v2, vs2, d2, ds2, p2, q2, rfl, rfl, rfl, h2, r2⟩ := trodAll_cons r1
  obtain ⟨rfl, rfl, rfl⟩ := trodAll_nil r2
  obtain rfl : args = #[v0, v1, v2] := by cases args; simp_all
  obtain ⟨rfl, rfl⟩ := trodVars_none hV
  obtain ⟨a0, rfl, rfl, rfl, w0⟩ := open_int Try.underlying5 (hval 0 5 v0 rfl rfl) h0
  obtain ⟨a1, rfl, rfl, rfl, w1⟩ := open_int Try.underlying5 (hval 1 5 v1 rfl rfl) h1
  obtain ⟨a2, rfl, rfl, rfl, w2⟩ := open_string Try.underlying9 (hval 2 9 v2 rfl rfl) h2
  clear hA0
  simp only [List.append_nil] at hW'
  refine (holds a0 a1 a2 w0 w1 w2 W).mono fun e W' ⟨he, hg⟩ => ?_
  subst he
  exact ⟨_, rfl, post_mine (pa := []) (pv := []) hW' hg (fun _ _ _ => (trodAll_cons_mk (shut_bool Try.underlying4 _) trodAll_mk0)) (fun sp _ => (trodAll_cons_mk (shut_int Try.underlying5 w0) (trodAll_cons_mk (shut_int Try.underlying5 w1) (trodAll_cons_mk (shut_string Try.underlying9 w2) trodAll_mk0)))) (fun _ _ => rfl) rfl
    (ok_one (by kernel_rfl) rfl (okWide_bool_mk Try.underlying4 _))⟩

set_option maxRecDepth 100000 in
theorem lifted (os : Os) (started : os.Started) (H : Type) (enc : TypeId × Value → H) :
    ReturnsInHanded {} Try.checked os 4 .any (Rows.treeBuiltinsSpec.pre6 enc Try.prog Try.f4 Rows.treeBuiltinsRow.domain false) (Rows.treeBuiltinsSpec.post enc Try.prog Try.f4 false true false false) := by
  refine returnsInHanded_of_change (C := Try.checked) own started (by kernel_rfl) Try.func4
    (ChangeSpec.witness6 (enc := enc) (C := Try.checked) false ⟨#[], #[.int .u8 0, .int .u8 0, .string .empty], []⟩ 8 (by kernel_rfl) (by kernel_rfl) (by kernel_rfl) (by kernel_rfl)) ?_
  intro W base args ds gs before hval hW _ _
  exact contract H enc W base args ds gs before hval hW

theorem proved : Rows.TreeBuiltinsSaid :=
  OpenClaim.holds_of_wide 4 Try.f4 rfl rfl rfl rfl rfl rfl rfl ⟨rfl, rfl, rfl, rfl, rfl⟩ rfl rfl rfl rfl rfl (by kernel_rfl) Try.func4 (by kernel_rfl)
    (of_decide_eq_true (by kernel_rfl)) (by unfold Func.isWrapper; first | (rw [if_pos (by decide +kernel)]; kernel_rfl) | (rw [if_neg (by decide +kernel)]; exact ⟨rfl, rfl⟩))
    (fun os started H enc _ => lifted os started H enc)
end Go.Proofs.Ytclojigjckfppaa.treeBuiltins
