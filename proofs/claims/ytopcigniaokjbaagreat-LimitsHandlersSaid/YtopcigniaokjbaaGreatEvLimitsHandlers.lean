/-
  'bonsai/bonsailaw6.LimitsHandlers' is true, whatever the input. No condition.
-/
import Derived.Test.YtopcigniaokjbaaGreatEvTab
import Derived.Test.YtopcigniaokjbaaGreatEvOrd
import Derived.OpenShut
namespace Go.Proofs.YtopcigniaokjbaaGreat.limitsHandlers
open Go.Ev Go.ChangeShapes Go.WideShapes Go.ChangeAt Go.RowKit
set_option linter.unusedVariables false
set_option linter.unusedSimpArgs false

def fact (vals : List Value) (ops : List (BinOp × Value × Value × Value)) (F T A : Nat) (k : Nat) (b0 b1 b2 b3 b4 : Bool) : Facts where
  vals := vals
  ops := ops
  lts := [(.chan (some F), .int .i64 (.ofNat 0), b0), (.chan (some F), .chan (some T), b1), (.int .i64 (.ofNat k), .chan (some T), b2), (.chan (some A), .int .i64 (.ofNat 0), b3), (.chan (some A), .int .i64 (.ofNat k), b4)]
def few : List (BinOp × Value × Value × Value) := [(.and, .chan (some 0), .int .i64 (.ofNat 15), .chan (some 3)), (.sub, .chan (some 3), .int .i64 (.ofNat 1), .chan (some 4)), (.and, .chan (some 1), .int .i64 (.ofNat 15), .chan (some 5)),
  (.sub, .chan (some 5), .int .i64 (.ofNat 1), .chan (some 6)), (.and, .chan (some 2), .int .i64 (.ofNat 15), .chan (some 7)), (.sub, .chan (some 7), .int .i64 (.ofNat 1), .chan (some 8))]
theorem c_false_0 (O : Addr → Option Value) (vals : List Value) : (allBool fun b0 => allBool fun b1 => allBool fun b2 => allBool fun b3 => allBool fun b4 => isTrue (evalCallF (tabOf fs ts es ps (fact vals [] 0 1 2 1 b0 b1 b2 b3 b4).know) O 100000 60 3 [.complex .f32 12 0, .chan (some 0), .chan (some 1), .chan (some 2), .bool false] .empty)) = true := by kernel_rfl
theorem c_false_1 (O : Addr → Option Value) (vals : List Value) : (allBool fun b0 => allBool fun b1 => allBool fun b2 => allBool fun b3 => allBool fun b4 => isTrue (evalCallF (tabOf fs ts es ps (fact vals [] 0 1 2 2 b0 b1 b2 b3 b4).know) O 100000 60 3 [.complex .f32 12 1, .chan (some 0), .chan (some 1), .chan (some 2), .bool false] .empty)) = true := by kernel_rfl
theorem c_false_2 (O : Addr → Option Value) (vals : List Value) : (allBool fun b0 => allBool fun b1 => allBool fun b2 => allBool fun b3 => allBool fun b4 => isTrue (evalCallF (tabOf fs ts es ps (fact vals [] 0 1 2 3 b0 b1 b2 b3 b4).know) O 100000 60 3 [.complex .f32 12 2, .chan (some 0), .chan (some 1), .chan (some 2), .bool false] .empty)) = true := by kernel_rfl
theorem c_false_3 (O : Addr → Option Value) (vals : List Value) : (allBool fun b0 => allBool fun b1 => allBool fun b2 => allBool fun b3 => allBool fun b4 => isTrue (evalCallF (tabOf fs ts es ps (fact vals [] 0 1 2 4 b0 b1 b2 b3 b4).know) O 100000 60 3 [.complex .f32 12 3, .chan (some 0), .chan (some 1), .chan (some 2), .bool false] .empty)) = true := by kernel_rfl
theorem c_false_4 (O : Addr → Option Value) (vals : List Value) : (allBool fun b0 => allBool fun b1 => allBool fun b2 => allBool fun b3 => allBool fun b4 => isTrue (evalCallF (tabOf fs ts es ps (fact vals [] 0 1 2 5 b0 b1 b2 b3 b4).know) O 100000 60 3 [.complex .f32 12 4, .chan (some 0), .chan (some 1), .chan (some 2), .bool false] .empty)) = true := by kernel_rfl
theorem c_false_5 (O : Addr → Option Value) (vals : List Value) : (allBool fun b0 => allBool fun b1 => allBool fun b2 => allBool fun b3 => allBool fun b4 => isTrue (evalCallF (tabOf fs ts es ps (fact vals [] 0 1 2 6 b0 b1 b2 b3 b4).know) O 100000 60 3 [.complex .f32 12 5, .chan (some 0), .chan (some 1), .chan (some 2), .bool false] .empty)) = true := by kernel_rfl
theorem c_false_6 (O : Addr → Option Value) (vals : List Value) : (allBool fun b0 => allBool fun b1 => allBool fun b2 => allBool fun b3 => allBool fun b4 => isTrue (evalCallF (tabOf fs ts es ps (fact vals [] 0 1 2 7 b0 b1 b2 b3 b4).know) O 100000 60 3 [.complex .f32 12 6, .chan (some 0), .chan (some 1), .chan (some 2), .bool false] .empty)) = true := by kernel_rfl
theorem c_false_7 (O : Addr → Option Value) (vals : List Value) : (allBool fun b0 => allBool fun b1 => allBool fun b2 => allBool fun b3 => allBool fun b4 => isTrue (evalCallF (tabOf fs ts es ps (fact vals [] 0 1 2 8 b0 b1 b2 b3 b4).know) O 100000 60 3 [.complex .f32 12 7, .chan (some 0), .chan (some 1), .chan (some 2), .bool false] .empty)) = true := by kernel_rfl
theorem c_false_8 (O : Addr → Option Value) (vals : List Value) : (allBool fun b0 => allBool fun b1 => allBool fun b2 => allBool fun b3 => allBool fun b4 => isTrue (evalCallF (tabOf fs ts es ps (fact vals [] 0 1 2 9 b0 b1 b2 b3 b4).know) O 100000 60 3 [.complex .f32 12 8, .chan (some 0), .chan (some 1), .chan (some 2), .bool false] .empty)) = true := by kernel_rfl
theorem c_false_9 (O : Addr → Option Value) (vals : List Value) : (allBool fun b0 => allBool fun b1 => allBool fun b2 => allBool fun b3 => allBool fun b4 => isTrue (evalCallF (tabOf fs ts es ps (fact vals [] 0 1 2 10 b0 b1 b2 b3 b4).know) O 100000 60 3 [.complex .f32 12 9, .chan (some 0), .chan (some 1), .chan (some 2), .bool false] .empty)) = true := by kernel_rfl
theorem c_false_10 (O : Addr → Option Value) (vals : List Value) : (allBool fun b0 => allBool fun b1 => allBool fun b2 => allBool fun b3 => allBool fun b4 => isTrue (evalCallF (tabOf fs ts es ps (fact vals [] 0 1 2 11 b0 b1 b2 b3 b4).know) O 100000 60 3 [.complex .f32 12 10, .chan (some 0), .chan (some 1), .chan (some 2), .bool false] .empty)) = true := by kernel_rfl
theorem c_false_11 (O : Addr → Option Value) (vals : List Value) : (allBool fun b0 => allBool fun b1 => allBool fun b2 => allBool fun b3 => allBool fun b4 => isTrue (evalCallF (tabOf fs ts es ps (fact vals [] 0 1 2 12 b0 b1 b2 b3 b4).know) O 100000 60 3 [.complex .f32 12 11, .chan (some 0), .chan (some 1), .chan (some 2), .bool false] .empty)) = true := by kernel_rfl
theorem eval_false (O : Addr → Option Value) (vals : List Value) (r : Nat) (hr : r < 12) (b0 b1 b2 b3 b4 : Bool) : isTrue (evalCallF (tabOf fs ts es ps (fact vals [] 0 1 2 (r + 1) b0 b1 b2 b3 b4).know) O 100000 60 3 [.complex .f32 12 r, .chan (some 0), .chan (some 1), .chan (some 2), .bool false] .empty) = true := by
  match r, hr with
  | 0, _ => exact allBool_spec (allBool_spec (allBool_spec (allBool_spec (allBool_spec (c_false_0 O vals) b0) b1) b2) b3) b4
  | 1, _ => exact allBool_spec (allBool_spec (allBool_spec (allBool_spec (allBool_spec (c_false_1 O vals) b0) b1) b2) b3) b4
  | 2, _ => exact allBool_spec (allBool_spec (allBool_spec (allBool_spec (allBool_spec (c_false_2 O vals) b0) b1) b2) b3) b4
  | 3, _ => exact allBool_spec (allBool_spec (allBool_spec (allBool_spec (allBool_spec (c_false_3 O vals) b0) b1) b2) b3) b4
  | 4, _ => exact allBool_spec (allBool_spec (allBool_spec (allBool_spec (allBool_spec (c_false_4 O vals) b0) b1) b2) b3) b4
  | 5, _ => exact allBool_spec (allBool_spec (allBool_spec (allBool_spec (allBool_spec (c_false_5 O vals) b0) b1) b2) b3) b4
  | 6, _ => exact allBool_spec (allBool_spec (allBool_spec (allBool_spec (allBool_spec (c_false_6 O vals) b0) b1) b2) b3) b4
  | 7, _ => exact allBool_spec (allBool_spec (allBool_spec (allBool_spec (allBool_spec (c_false_7 O vals) b0) b1) b2) b3) b4
  | 8, _ => exact allBool_spec (allBool_spec (allBool_spec (allBool_spec (allBool_spec (c_false_8 O vals) b0) b1) b2) b3) b4
  | 9, _ => exact allBool_spec (allBool_spec (allBool_spec (allBool_spec (allBool_spec (c_false_9 O vals) b0) b1) b2) b3) b4
  | 10, _ => exact allBool_spec (allBool_spec (allBool_spec (allBool_spec (allBool_spec (c_false_10 O vals) b0) b1) b2) b3) b4
  | 11, _ => exact allBool_spec (allBool_spec (allBool_spec (allBool_spec (allBool_spec (c_false_11 O vals) b0) b1) b2) b3) b4
  | q + 12, h => exact absurd h (by omega)
theorem c_true_0 (O : Addr → Option Value) (vals : List Value) : (allBool fun b0 => allBool fun b1 => allBool fun b2 => allBool fun b3 => allBool fun b4 => isTrue (evalCallF (tabOf fs ts es ps (fact vals few 4 6 8 1 b0 b1 b2 b3 b4).know) O 100000 60 3 [.complex .f32 12 0, .chan (some 0), .chan (some 1), .chan (some 2), .bool true] .empty)) = true := by kernel_rfl
theorem c_true_1 (O : Addr → Option Value) (vals : List Value) : (allBool fun b0 => allBool fun b1 => allBool fun b2 => allBool fun b3 => allBool fun b4 => isTrue (evalCallF (tabOf fs ts es ps (fact vals few 4 6 8 2 b0 b1 b2 b3 b4).know) O 100000 60 3 [.complex .f32 12 1, .chan (some 0), .chan (some 1), .chan (some 2), .bool true] .empty)) = true := by kernel_rfl
theorem c_true_2 (O : Addr → Option Value) (vals : List Value) : (allBool fun b0 => allBool fun b1 => allBool fun b2 => allBool fun b3 => allBool fun b4 => isTrue (evalCallF (tabOf fs ts es ps (fact vals few 4 6 8 3 b0 b1 b2 b3 b4).know) O 100000 60 3 [.complex .f32 12 2, .chan (some 0), .chan (some 1), .chan (some 2), .bool true] .empty)) = true := by kernel_rfl
theorem c_true_3 (O : Addr → Option Value) (vals : List Value) : (allBool fun b0 => allBool fun b1 => allBool fun b2 => allBool fun b3 => allBool fun b4 => isTrue (evalCallF (tabOf fs ts es ps (fact vals few 4 6 8 4 b0 b1 b2 b3 b4).know) O 100000 60 3 [.complex .f32 12 3, .chan (some 0), .chan (some 1), .chan (some 2), .bool true] .empty)) = true := by kernel_rfl
theorem c_true_4 (O : Addr → Option Value) (vals : List Value) : (allBool fun b0 => allBool fun b1 => allBool fun b2 => allBool fun b3 => allBool fun b4 => isTrue (evalCallF (tabOf fs ts es ps (fact vals few 4 6 8 5 b0 b1 b2 b3 b4).know) O 100000 60 3 [.complex .f32 12 4, .chan (some 0), .chan (some 1), .chan (some 2), .bool true] .empty)) = true := by kernel_rfl
theorem c_true_5 (O : Addr → Option Value) (vals : List Value) : (allBool fun b0 => allBool fun b1 => allBool fun b2 => allBool fun b3 => allBool fun b4 => isTrue (evalCallF (tabOf fs ts es ps (fact vals few 4 6 8 6 b0 b1 b2 b3 b4).know) O 100000 60 3 [.complex .f32 12 5, .chan (some 0), .chan (some 1), .chan (some 2), .bool true] .empty)) = true := by kernel_rfl
theorem c_true_6 (O : Addr → Option Value) (vals : List Value) : (allBool fun b0 => allBool fun b1 => allBool fun b2 => allBool fun b3 => allBool fun b4 => isTrue (evalCallF (tabOf fs ts es ps (fact vals few 4 6 8 7 b0 b1 b2 b3 b4).know) O 100000 60 3 [.complex .f32 12 6, .chan (some 0), .chan (some 1), .chan (some 2), .bool true] .empty)) = true := by kernel_rfl
theorem c_true_7 (O : Addr → Option Value) (vals : List Value) : (allBool fun b0 => allBool fun b1 => allBool fun b2 => allBool fun b3 => allBool fun b4 => isTrue (evalCallF (tabOf fs ts es ps (fact vals few 4 6 8 8 b0 b1 b2 b3 b4).know) O 100000 60 3 [.complex .f32 12 7, .chan (some 0), .chan (some 1), .chan (some 2), .bool true] .empty)) = true := by kernel_rfl
theorem c_true_8 (O : Addr → Option Value) (vals : List Value) : (allBool fun b0 => allBool fun b1 => allBool fun b2 => allBool fun b3 => allBool fun b4 => isTrue (evalCallF (tabOf fs ts es ps (fact vals few 4 6 8 9 b0 b1 b2 b3 b4).know) O 100000 60 3 [.complex .f32 12 8, .chan (some 0), .chan (some 1), .chan (some 2), .bool true] .empty)) = true := by kernel_rfl
theorem c_true_9 (O : Addr → Option Value) (vals : List Value) : (allBool fun b0 => allBool fun b1 => allBool fun b2 => allBool fun b3 => allBool fun b4 => isTrue (evalCallF (tabOf fs ts es ps (fact vals few 4 6 8 10 b0 b1 b2 b3 b4).know) O 100000 60 3 [.complex .f32 12 9, .chan (some 0), .chan (some 1), .chan (some 2), .bool true] .empty)) = true := by kernel_rfl
theorem c_true_10 (O : Addr → Option Value) (vals : List Value) : (allBool fun b0 => allBool fun b1 => allBool fun b2 => allBool fun b3 => allBool fun b4 => isTrue (evalCallF (tabOf fs ts es ps (fact vals few 4 6 8 11 b0 b1 b2 b3 b4).know) O 100000 60 3 [.complex .f32 12 10, .chan (some 0), .chan (some 1), .chan (some 2), .bool true] .empty)) = true := by kernel_rfl
theorem c_true_11 (O : Addr → Option Value) (vals : List Value) : (allBool fun b0 => allBool fun b1 => allBool fun b2 => allBool fun b3 => allBool fun b4 => isTrue (evalCallF (tabOf fs ts es ps (fact vals few 4 6 8 12 b0 b1 b2 b3 b4).know) O 100000 60 3 [.complex .f32 12 11, .chan (some 0), .chan (some 1), .chan (some 2), .bool true] .empty)) = true := by kernel_rfl
theorem eval_true (O : Addr → Option Value) (vals : List Value) (r : Nat) (hr : r < 12) (b0 b1 b2 b3 b4 : Bool) : isTrue (evalCallF (tabOf fs ts es ps (fact vals few 4 6 8 (r + 1) b0 b1 b2 b3 b4).know) O 100000 60 3 [.complex .f32 12 r, .chan (some 0), .chan (some 1), .chan (some 2), .bool true] .empty) = true := by
  match r, hr with
  | 0, _ => exact allBool_spec (allBool_spec (allBool_spec (allBool_spec (allBool_spec (c_true_0 O vals) b0) b1) b2) b3) b4
  | 1, _ => exact allBool_spec (allBool_spec (allBool_spec (allBool_spec (allBool_spec (c_true_1 O vals) b0) b1) b2) b3) b4
  | 2, _ => exact allBool_spec (allBool_spec (allBool_spec (allBool_spec (allBool_spec (c_true_2 O vals) b0) b1) b2) b3) b4
  | 3, _ => exact allBool_spec (allBool_spec (allBool_spec (allBool_spec (allBool_spec (c_true_3 O vals) b0) b1) b2) b3) b4
  | 4, _ => exact allBool_spec (allBool_spec (allBool_spec (allBool_spec (allBool_spec (c_true_4 O vals) b0) b1) b2) b3) b4
  | 5, _ => exact allBool_spec (allBool_spec (allBool_spec (allBool_spec (allBool_spec (c_true_5 O vals) b0) b1) b2) b3) b4
  | 6, _ => exact allBool_spec (allBool_spec (allBool_spec (allBool_spec (allBool_spec (c_true_6 O vals) b0) b1) b2) b3) b4
  | 7, _ => exact allBool_spec (allBool_spec (allBool_spec (allBool_spec (allBool_spec (c_true_7 O vals) b0) b1) b2) b3) b4
  | 8, _ => exact allBool_spec (allBool_spec (allBool_spec (allBool_spec (allBool_spec (c_true_8 O vals) b0) b1) b2) b3) b4
  | 9, _ => exact allBool_spec (allBool_spec (allBool_spec (allBool_spec (allBool_spec (c_true_9 O vals) b0) b1) b2) b3) b4
  | 10, _ => exact allBool_spec (allBool_spec (allBool_spec (allBool_spec (allBool_spec (c_true_10 O vals) b0) b1) b2) b3) b4
  | 11, _ => exact allBool_spec (allBool_spec (allBool_spec (allBool_spec (allBool_spec (c_true_11 O vals) b0) b1) b2) b3) b4
  | q + 12, h => exact absurd h (by omega)
def lo (x : Int) : Int := IntKind.i64.wrap (BitVec.ofInt IntKind.i64.bits x &&& BitVec.ofInt IntKind.i64.bits 15).toNat
def dn (x : Int) : Int := IntKind.i64.wrap (lo x - 1)
theorem lts_ok {vals : List Value} {ops : List (BinOp × Value × Value × Value)} {F T A k : Nat} {x y z : Int} (hF : vals[F]? = some (.int .i64 x)) (hT : vals[T]? = some (.int .i64 y)) (hA : vals[A]? = some (.int .i64 z)) :
    ∀ p ∈ (fact vals ops F T A k (decide (x < 0)) (decide (x < y)) (decide ((k : Int) < y)) (decide (z < 0)) (decide (z < k))).lts, ∀ x' y', SV (fact vals ops F T A k (decide (x < 0)) (decide (x < y)) (decide ((k : Int) < y)) (decide (z < 0)) (decide (z < k))).know.sym p.1 x' → SV (fact vals ops F T A k (decide (x < 0)) (decide (x < y)) (decide ((k : Int) < y)) (decide (z < 0)) (decide (z < k))).know.sym p.2.1 y' → ∃ k m n, x' = .int k m ∧ y' = .int k n ∧ decide (m < n) = p.2.2 := by
  intro p hp
  simp only [fact, List.mem_cons, List.not_mem_nil, or_false] at hp
  rcases hp with rfl | rfl | rfl | rfl | rfl
  · exact fact_ok (symIs hF rfl) (fun _ h => sv_int h) rfl
  · exact fact_ok (symIs hF rfl) (symIs hT rfl) rfl
  · exact fact_ok (fun _ h => sv_int h) (symIs hT rfl) rfl
  · exact fact_ok (symIs hA rfl) (fun _ h => sv_int h) rfl
  · exact fact_ok (symIs hA rfl) (fun _ h => sv_int h) rfl
theorem holds (a0 a1 a2 a3 : Int) (a4 : Bool) (w0 : (Lit.int .u8 a0).wf = true) (w1 : (Lit.int .i64 a1).wf = true) (w2 : (Lit.int .i64 a2).wf = true) (w3 : (Lit.int .i64 a3).wf = true) (W : World) : Calls Tryz.prog 3 #[.int .u8 a0, .int .i64 a1, .int .i64 a2, .int .i64 a3, .bool a4] W fun e W' => e = .returned (.bool true) ∧ Stays W W' := by
  cases a4 with
  | false =>
    exact law_rel (Facts.know_ok (F := fact [.int .i64 a1, .int .i64 a2, .int .i64 a3] [] 0 1 2 (a0.toNat % 12 + 1) _ _ _ _ _) ⟨lts_ok (x := a1) (y := a2) (z := a3) rfl rfl rfl, fun p hp => by cases hp⟩) (lf := 100000) (k := 60) (fn := Tryz.f3) (l' := [.int .u8 a0, .int .i64 a1, .int .i64 a2, .int .i64 a3, .bool false]) (by kernel_rfl) (by kernel_rfl)
      (.cons (res_arg w0) (.cons (symArg rfl rfl) (.cons (symArg rfl rfl) (.cons (symArg rfl rfl) (.cons (.flat rfl) .nil))))) (eval_false _ _ (a0.toNat % 12) (Nat.mod_lt _ (by decide)) _ _ _ _ _)
  | true =>
    refine law_rel (Facts.know_ok (F := fact [.int .i64 a1, .int .i64 a2, .int .i64 a3, .int .i64 (lo a1), .int .i64 (dn a1), .int .i64 (lo a2), .int .i64 (dn a2), .int .i64 (lo a3), .int .i64 (dn a3)] few 4 6 8 (a0.toNat % 12 + 1) _ _ _ _ _) ⟨lts_ok (x := dn a1) (y := dn a2) (z := dn a3) rfl rfl rfl, ?_⟩) (lf := 100000) (k := 60) (fn := Tryz.f3) (l' := [.int .u8 a0, .int .i64 a1, .int .i64 a2, .int .i64 a3, .bool true]) (by kernel_rfl) (by kernel_rfl)
      (.cons (res_arg w0) (.cons (symArg rfl rfl) (.cons (symArg rfl rfl) (.cons (symArg rfl rfl) (.cons (.flat rfl) .nil))))) (eval_true _ _ (a0.toNat % 12) (Nat.mod_lt _ (by decide)) _ _ _ _ _)
    intro p hp
    simp only [fact, few, List.mem_cons, List.not_mem_nil, or_false] at hp
    rcases hp with rfl | rfl | rfl | rfl | rfl | rfl
    · exact op_ok (symIs (v := .int .i64 a1) rfl rfl) (fun _ h => sv_int h) (q := lo a1) rfl (symSV rfl rfl)
    · exact op_ok (symIs (v := .int .i64 (lo a1)) rfl rfl) (fun _ h => sv_int h) (q := dn a1) rfl (symSV rfl rfl)
    · exact op_ok (symIs (v := .int .i64 a2) rfl rfl) (fun _ h => sv_int h) (q := lo a2) rfl (symSV rfl rfl)
    · exact op_ok (symIs (v := .int .i64 (lo a2)) rfl rfl) (fun _ h => sv_int h) (q := dn a2) rfl (symSV rfl rfl)
    · exact op_ok (symIs (v := .int .i64 a3) rfl rfl) (fun _ h => sv_int h) (q := lo a3) rfl (symSV rfl rfl)
    · exact op_ok (symIs (v := .int .i64 (lo a3)) rfl rfl) (fun _ h => sv_int h) (q := dn a3) rfl (symSV rfl rfl)

set_option maxRecDepth 100000 in
theorem contract (H : Type) (enc : TypeId × Value → H) (W : World) (base : Nat) (args : Array Value) (ds gs : List (DataW H)) (before : List MemPlace)
    (hval : ∀ (j : Nat) t v, Tryz.f3.params[j]? = some t → args[j]? = some v → Value.okWide Tryz.prog W .any base t v)
    (hW : DataW.Whole enc Tryz.prog Tryz.f3.params.toList Rows.limitsHandlersSpec.vars false W args.toList ds gs before) :
    Calls Tryz.prog 3 args W fun e W' => ∃ v, e = .returned v ∧ Rows.limitsHandlersSpec.post enc Tryz.prog Tryz.f3 false true false false W args v W' := by
  have hW' := hW
  obtain ⟨p, q, hA0, hV, rfl, hfz, hnd⟩ := hW
  have hA : DataW.TrodAll enc Tryz.prog W 0 (fun _ => true) true Tryz.f3.params.toList args.toList ds p := hA0
  rw [Tryz.params3] at hA hval
  obtain ⟨v0, vs0, d0, ds0, p0, q0, hargs, rfl, rfl, h0, r0⟩ := trodAll_cons hA
  obtain ⟨v1, vs1, d1, ds1, p1, q1, rfl, rfl, rfl, h1, r1⟩ := trodAll_cons r0
  obtain ⟨v2, vs2, d2, ds2, p2, q2, rfl, rfl, rfl, h2, r2⟩ := trodAll_cons r1
  obtain ⟨v3, vs3, d3, ds3, p3, q3, rfl, rfl, rfl, h3, r3⟩ := trodAll_cons r2
  obtain ⟨v4, vs4, d4, ds4, p4, q4, rfl, rfl, rfl, h4, r4⟩ := trodAll_cons r3
  obtain ⟨rfl, rfl, rfl⟩ := trodAll_nil r4
  obtain rfl : args = #[v0, v1, v2, v3, v4] := by cases args; simp_all
  obtain ⟨rfl, rfl⟩ := trodVars_none hV
  obtain ⟨a0, rfl, rfl, rfl, w0⟩ := open_int Tryz.underlying5 (hval 0 5 v0 rfl rfl) h0
  obtain ⟨a1, rfl, rfl, rfl, w1⟩ := open_int Tryz.underlying3 (hval 1 3 v1 rfl rfl) h1
  obtain ⟨a2, rfl, rfl, rfl, w2⟩ := open_int Tryz.underlying3 (hval 2 3 v2 rfl rfl) h2
  obtain ⟨a3, rfl, rfl, rfl, w3⟩ := open_int Tryz.underlying3 (hval 3 3 v3 rfl rfl) h3
  obtain ⟨a4, rfl, rfl, rfl⟩ := open_bool Tryz.underlying4 (hval 4 4 v4 rfl rfl) h4
  clear hA0
  simp only [List.append_nil] at hW'
  refine (holds a0 a1 a2 a3 a4 w0 w1 w2 w3 W).mono fun e W' ⟨he, hg⟩ => ?_
  subst he
  exact ⟨_, rfl, post_mine (pa := []) (pv := []) hW' hg (fun _ _ _ => (trodAll_cons_mk (shut_bool Tryz.underlying4 _) trodAll_mk0)) (fun sp _ => (trodAll_cons_mk (shut_int Tryz.underlying5 w0) (trodAll_cons_mk (shut_int Tryz.underlying3 w1) (trodAll_cons_mk (shut_int Tryz.underlying3 w2) (trodAll_cons_mk (shut_int Tryz.underlying3 w3) (trodAll_cons_mk (shut_bool Tryz.underlying4 a4) trodAll_mk0)))))) (fun _ _ => rfl) rfl
    (ok_one (by kernel_rfl) rfl (okWide_bool_mk Tryz.underlying4 _))⟩

set_option maxRecDepth 100000 in
theorem lifted (os : Os) (started : os.Started) (H : Type) (enc : TypeId × Value → H) :
    ReturnsInHanded {} Tryz.checked os 3 .any (Rows.limitsHandlersSpec.pre6 enc Tryz.prog Tryz.f3 Rows.limitsHandlersRow.domain false) (Rows.limitsHandlersSpec.post enc Tryz.prog Tryz.f3 false true false false) := by
  refine returnsInHanded_of_change (C := Tryz.checked) own started (by kernel_rfl) Tryz.func3
    (ChangeSpec.witness6 (enc := enc) (C := Tryz.checked) false ⟨#[], #[.int .u8 0, .int .i64 0, .int .i64 0, .int .i64 0, .bool false], []⟩ 8 (by kernel_rfl) (by kernel_rfl) (by kernel_rfl) (by kernel_rfl)) ?_
  intro W base args ds gs before hval hW _ _
  exact contract H enc W base args ds gs before hval hW

theorem proved : Rows.LimitsHandlersSaid :=
  OpenClaim.holds_of_wide 3 Tryz.f3 rfl rfl rfl rfl rfl rfl rfl ⟨rfl, rfl, rfl, rfl, rfl⟩ rfl rfl rfl rfl rfl (by kernel_rfl) Tryz.func3 (by kernel_rfl)
    (of_decide_eq_true (by kernel_rfl)) (by unfold Func.isWrapper; first | (rw [if_pos (by decide +kernel)]; kernel_rfl) | (rw [if_neg (by decide +kernel)]; exact ⟨rfl, rfl⟩))
    (fun os started H enc _ => lifted os started H enc)
end Go.Proofs.YtopcigniaokjbaaGreat.limitsHandlers
