/-
  'bonsai/bonsailaw3.OpNames' is true, whatever the input. No condition.
-/
import Derived.Test.YtceoheliineobaaEvTab
import Derived.OpenShut
namespace Go.Proofs.Ytceoheliineobaa.opNames
open Go.Ev Go.ChangeShapes Go.WideShapes Go.ChangeAt Go.RowKit
set_option linter.unusedVariables false
set_option linter.unusedSimpArgs false

theorem c_0 (O : Addr → Option Value) : (allB 43 fun i1 => isTrue (evalCallF (tabOf fs ts es ps) O 100000 60 9 [.complex .f32 43 0, .complex .f32 43 i1] .empty)) = true := by kernel_rfl
theorem c_1 (O : Addr → Option Value) : (allB 43 fun i1 => isTrue (evalCallF (tabOf fs ts es ps) O 100000 60 9 [.complex .f32 43 1, .complex .f32 43 i1] .empty)) = true := by kernel_rfl
theorem c_2 (O : Addr → Option Value) : (allB 43 fun i1 => isTrue (evalCallF (tabOf fs ts es ps) O 100000 60 9 [.complex .f32 43 2, .complex .f32 43 i1] .empty)) = true := by kernel_rfl
theorem c_3 (O : Addr → Option Value) : (allB 43 fun i1 => isTrue (evalCallF (tabOf fs ts es ps) O 100000 60 9 [.complex .f32 43 3, .complex .f32 43 i1] .empty)) = true := by kernel_rfl
theorem c_4 (O : Addr → Option Value) : (allB 43 fun i1 => isTrue (evalCallF (tabOf fs ts es ps) O 100000 60 9 [.complex .f32 43 4, .complex .f32 43 i1] .empty)) = true := by kernel_rfl
theorem c_5 (O : Addr → Option Value) : (allB 43 fun i1 => isTrue (evalCallF (tabOf fs ts es ps) O 100000 60 9 [.complex .f32 43 5, .complex .f32 43 i1] .empty)) = true := by kernel_rfl
theorem c_6 (O : Addr → Option Value) : (allB 43 fun i1 => isTrue (evalCallF (tabOf fs ts es ps) O 100000 60 9 [.complex .f32 43 6, .complex .f32 43 i1] .empty)) = true := by kernel_rfl
theorem c_7 (O : Addr → Option Value) : (allB 43 fun i1 => isTrue (evalCallF (tabOf fs ts es ps) O 100000 60 9 [.complex .f32 43 7, .complex .f32 43 i1] .empty)) = true := by kernel_rfl
theorem c_8 (O : Addr → Option Value) : (allB 43 fun i1 => isTrue (evalCallF (tabOf fs ts es ps) O 100000 60 9 [.complex .f32 43 8, .complex .f32 43 i1] .empty)) = true := by kernel_rfl
theorem c_9 (O : Addr → Option Value) : (allB 43 fun i1 => isTrue (evalCallF (tabOf fs ts es ps) O 100000 60 9 [.complex .f32 43 9, .complex .f32 43 i1] .empty)) = true := by kernel_rfl
theorem c_10 (O : Addr → Option Value) : (allB 43 fun i1 => isTrue (evalCallF (tabOf fs ts es ps) O 100000 60 9 [.complex .f32 43 10, .complex .f32 43 i1] .empty)) = true := by kernel_rfl
theorem c_11 (O : Addr → Option Value) : (allB 43 fun i1 => isTrue (evalCallF (tabOf fs ts es ps) O 100000 60 9 [.complex .f32 43 11, .complex .f32 43 i1] .empty)) = true := by kernel_rfl
theorem c_12 (O : Addr → Option Value) : (allB 43 fun i1 => isTrue (evalCallF (tabOf fs ts es ps) O 100000 60 9 [.complex .f32 43 12, .complex .f32 43 i1] .empty)) = true := by kernel_rfl
theorem c_13 (O : Addr → Option Value) : (allB 43 fun i1 => isTrue (evalCallF (tabOf fs ts es ps) O 100000 60 9 [.complex .f32 43 13, .complex .f32 43 i1] .empty)) = true := by kernel_rfl
theorem c_14 (O : Addr → Option Value) : (allB 43 fun i1 => isTrue (evalCallF (tabOf fs ts es ps) O 100000 60 9 [.complex .f32 43 14, .complex .f32 43 i1] .empty)) = true := by kernel_rfl
theorem c_15 (O : Addr → Option Value) : (allB 43 fun i1 => isTrue (evalCallF (tabOf fs ts es ps) O 100000 60 9 [.complex .f32 43 15, .complex .f32 43 i1] .empty)) = true := by kernel_rfl
theorem c_16 (O : Addr → Option Value) : (allB 43 fun i1 => isTrue (evalCallF (tabOf fs ts es ps) O 100000 60 9 [.complex .f32 43 16, .complex .f32 43 i1] .empty)) = true := by kernel_rfl
theorem c_17 (O : Addr → Option Value) : (allB 43 fun i1 => isTrue (evalCallF (tabOf fs ts es ps) O 100000 60 9 [.complex .f32 43 17, .complex .f32 43 i1] .empty)) = true := by kernel_rfl
theorem c_18 (O : Addr → Option Value) : (allB 43 fun i1 => isTrue (evalCallF (tabOf fs ts es ps) O 100000 60 9 [.complex .f32 43 18, .complex .f32 43 i1] .empty)) = true := by kernel_rfl
theorem c_19 (O : Addr → Option Value) : (allB 43 fun i1 => isTrue (evalCallF (tabOf fs ts es ps) O 100000 60 9 [.complex .f32 43 19, .complex .f32 43 i1] .empty)) = true := by kernel_rfl
theorem c_20 (O : Addr → Option Value) : (allB 43 fun i1 => isTrue (evalCallF (tabOf fs ts es ps) O 100000 60 9 [.complex .f32 43 20, .complex .f32 43 i1] .empty)) = true := by kernel_rfl
theorem c_21 (O : Addr → Option Value) : (allB 43 fun i1 => isTrue (evalCallF (tabOf fs ts es ps) O 100000 60 9 [.complex .f32 43 21, .complex .f32 43 i1] .empty)) = true := by kernel_rfl
theorem c_22 (O : Addr → Option Value) : (allB 43 fun i1 => isTrue (evalCallF (tabOf fs ts es ps) O 100000 60 9 [.complex .f32 43 22, .complex .f32 43 i1] .empty)) = true := by kernel_rfl
theorem c_23 (O : Addr → Option Value) : (allB 43 fun i1 => isTrue (evalCallF (tabOf fs ts es ps) O 100000 60 9 [.complex .f32 43 23, .complex .f32 43 i1] .empty)) = true := by kernel_rfl
theorem c_24 (O : Addr → Option Value) : (allB 43 fun i1 => isTrue (evalCallF (tabOf fs ts es ps) O 100000 60 9 [.complex .f32 43 24, .complex .f32 43 i1] .empty)) = true := by kernel_rfl
theorem c_25 (O : Addr → Option Value) : (allB 43 fun i1 => isTrue (evalCallF (tabOf fs ts es ps) O 100000 60 9 [.complex .f32 43 25, .complex .f32 43 i1] .empty)) = true := by kernel_rfl
theorem c_26 (O : Addr → Option Value) : (allB 43 fun i1 => isTrue (evalCallF (tabOf fs ts es ps) O 100000 60 9 [.complex .f32 43 26, .complex .f32 43 i1] .empty)) = true := by kernel_rfl
theorem c_27 (O : Addr → Option Value) : (allB 43 fun i1 => isTrue (evalCallF (tabOf fs ts es ps) O 100000 60 9 [.complex .f32 43 27, .complex .f32 43 i1] .empty)) = true := by kernel_rfl
theorem c_28 (O : Addr → Option Value) : (allB 43 fun i1 => isTrue (evalCallF (tabOf fs ts es ps) O 100000 60 9 [.complex .f32 43 28, .complex .f32 43 i1] .empty)) = true := by kernel_rfl
theorem c_29 (O : Addr → Option Value) : (allB 43 fun i1 => isTrue (evalCallF (tabOf fs ts es ps) O 100000 60 9 [.complex .f32 43 29, .complex .f32 43 i1] .empty)) = true := by kernel_rfl
theorem c_30 (O : Addr → Option Value) : (allB 43 fun i1 => isTrue (evalCallF (tabOf fs ts es ps) O 100000 60 9 [.complex .f32 43 30, .complex .f32 43 i1] .empty)) = true := by kernel_rfl
theorem c_31 (O : Addr → Option Value) : (allB 43 fun i1 => isTrue (evalCallF (tabOf fs ts es ps) O 100000 60 9 [.complex .f32 43 31, .complex .f32 43 i1] .empty)) = true := by kernel_rfl
theorem c_32 (O : Addr → Option Value) : (allB 43 fun i1 => isTrue (evalCallF (tabOf fs ts es ps) O 100000 60 9 [.complex .f32 43 32, .complex .f32 43 i1] .empty)) = true := by kernel_rfl
theorem c_33 (O : Addr → Option Value) : (allB 43 fun i1 => isTrue (evalCallF (tabOf fs ts es ps) O 100000 60 9 [.complex .f32 43 33, .complex .f32 43 i1] .empty)) = true := by kernel_rfl
theorem c_34 (O : Addr → Option Value) : (allB 43 fun i1 => isTrue (evalCallF (tabOf fs ts es ps) O 100000 60 9 [.complex .f32 43 34, .complex .f32 43 i1] .empty)) = true := by kernel_rfl
theorem c_35 (O : Addr → Option Value) : (allB 43 fun i1 => isTrue (evalCallF (tabOf fs ts es ps) O 100000 60 9 [.complex .f32 43 35, .complex .f32 43 i1] .empty)) = true := by kernel_rfl
theorem c_36 (O : Addr → Option Value) : (allB 43 fun i1 => isTrue (evalCallF (tabOf fs ts es ps) O 100000 60 9 [.complex .f32 43 36, .complex .f32 43 i1] .empty)) = true := by kernel_rfl
theorem c_37 (O : Addr → Option Value) : (allB 43 fun i1 => isTrue (evalCallF (tabOf fs ts es ps) O 100000 60 9 [.complex .f32 43 37, .complex .f32 43 i1] .empty)) = true := by kernel_rfl
theorem c_38 (O : Addr → Option Value) : (allB 43 fun i1 => isTrue (evalCallF (tabOf fs ts es ps) O 100000 60 9 [.complex .f32 43 38, .complex .f32 43 i1] .empty)) = true := by kernel_rfl
theorem c_39 (O : Addr → Option Value) : (allB 43 fun i1 => isTrue (evalCallF (tabOf fs ts es ps) O 100000 60 9 [.complex .f32 43 39, .complex .f32 43 i1] .empty)) = true := by kernel_rfl
theorem c_40 (O : Addr → Option Value) : (allB 43 fun i1 => isTrue (evalCallF (tabOf fs ts es ps) O 100000 60 9 [.complex .f32 43 40, .complex .f32 43 i1] .empty)) = true := by kernel_rfl
theorem c_41 (O : Addr → Option Value) : (allB 43 fun i1 => isTrue (evalCallF (tabOf fs ts es ps) O 100000 60 9 [.complex .f32 43 41, .complex .f32 43 i1] .empty)) = true := by kernel_rfl
theorem c_42 (O : Addr → Option Value) : (allB 43 fun i1 => isTrue (evalCallF (tabOf fs ts es ps) O 100000 60 9 [.complex .f32 43 42, .complex .f32 43 i1] .empty)) = true := by kernel_rfl
theorem eval (O : Addr → Option Value) (i0 i1 : Nat) (h0 : i0 < 43) (h1 : i1 < 43) : isTrue (evalCallF (tabOf fs ts es ps) O 100000 60 9 [.complex .f32 43 i0, .complex .f32 43 i1] .empty) = true := by
  match i0, h0 with
  | 0, _ =>
    exact allB_spec (c_0 O) i1 h1
  | 1, _ =>
    exact allB_spec (c_1 O) i1 h1
  | 2, _ =>
    exact allB_spec (c_2 O) i1 h1
  | 3, _ =>
    exact allB_spec (c_3 O) i1 h1
  | 4, _ =>
    exact allB_spec (c_4 O) i1 h1
  | 5, _ =>
    exact allB_spec (c_5 O) i1 h1
  | 6, _ =>
    exact allB_spec (c_6 O) i1 h1
  | 7, _ =>
    exact allB_spec (c_7 O) i1 h1
  | 8, _ =>
    exact allB_spec (c_8 O) i1 h1
  | 9, _ =>
    exact allB_spec (c_9 O) i1 h1
  | 10, _ =>
    exact allB_spec (c_10 O) i1 h1
  | 11, _ =>
    exact allB_spec (c_11 O) i1 h1
  | 12, _ =>
    exact allB_spec (c_12 O) i1 h1
  | 13, _ =>
    exact allB_spec (c_13 O) i1 h1
  | 14, _ =>
    exact allB_spec (c_14 O) i1 h1
  | 15, _ =>
    exact allB_spec (c_15 O) i1 h1
  | 16, _ =>
    exact allB_spec (c_16 O) i1 h1
  | 17, _ =>
    exact allB_spec (c_17 O) i1 h1
  | 18, _ =>
    exact allB_spec (c_18 O) i1 h1
  | 19, _ =>
    exact allB_spec (c_19 O) i1 h1
  | 20, _ =>
    exact allB_spec (c_20 O) i1 h1
  | 21, _ =>
    exact allB_spec (c_21 O) i1 h1
  | 22, _ =>
    exact allB_spec (c_22 O) i1 h1
  | 23, _ =>
    exact allB_spec (c_23 O) i1 h1
  | 24, _ =>
    exact allB_spec (c_24 O) i1 h1
  | 25, _ =>
    exact allB_spec (c_25 O) i1 h1
  | 26, _ =>
    exact allB_spec (c_26 O) i1 h1
  | 27, _ =>
    exact allB_spec (c_27 O) i1 h1
  | 28, _ =>
    exact allB_spec (c_28 O) i1 h1
  | 29, _ =>
    exact allB_spec (c_29 O) i1 h1
  | 30, _ =>
    exact allB_spec (c_30 O) i1 h1
  | 31, _ =>
    exact allB_spec (c_31 O) i1 h1
  | 32, _ =>
    exact allB_spec (c_32 O) i1 h1
  | 33, _ =>
    exact allB_spec (c_33 O) i1 h1
  | 34, _ =>
    exact allB_spec (c_34 O) i1 h1
  | 35, _ =>
    exact allB_spec (c_35 O) i1 h1
  | 36, _ =>
    exact allB_spec (c_36 O) i1 h1
  | 37, _ =>
    exact allB_spec (c_37 O) i1 h1
  | 38, _ =>
    exact allB_spec (c_38 O) i1 h1
  | 39, _ =>
    exact allB_spec (c_39 O) i1 h1
  | 40, _ =>
    exact allB_spec (c_40 O) i1 h1
  | 41, _ =>
    exact allB_spec (c_41 O) i1 h1
  | 42, _ =>
    exact allB_spec (c_42 O) i1 h1
  | q + 43, h => exact absurd h (by omega)
theorem holds (a0 : Int) (a1 : Int) (w0 : (Lit.int .u8 a0).wf = true) (w1 : (Lit.int .u8 a1).wf = true) (W : World) : Calls Try.prog 9 #[.int .u8 a0, .int .u8 a1] W fun e W' => e = .returned (.bool true) ∧ Stays W W' :=
  law_rel (lf := 100000) (k := 60) (fn := Try.f9) (l' := [.int .u8 a0, .int .u8 a1]) (by kernel_rfl) (by kernel_rfl) (.cons (res_arg w0) (.cons (res_arg w1) .nil)) (eval _ (a0.toNat % 43) (a1.toNat % 43) (Nat.mod_lt _ (by decide)) (Nat.mod_lt _ (by decide)))

set_option maxRecDepth 100000 in
theorem contract (H : Type) (enc : TypeId × Value → H) (W : World) (base : Nat) (args : Array Value) (ds gs : List (DataW H)) (before : List MemPlace)
    (hval : ∀ (j : Nat) t v, Try.f9.params[j]? = some t → args[j]? = some v → Value.okWide Try.prog W .any base t v)
    (hW : DataW.Whole enc Try.prog Try.f9.params.toList Rows.opNamesSpec.vars false W args.toList ds gs before) :
    Calls Try.prog 9 args W fun e W' => ∃ v, e = .returned v ∧ Rows.opNamesSpec.post enc Try.prog Try.f9 false true false false W args v W' := by
  have hW' := hW
  obtain ⟨p, q, hA0, hV, rfl, hfz, hnd⟩ := hW
  have hA : DataW.TrodAll enc Try.prog W 0 (fun _ => true) true Try.f9.params.toList args.toList ds p := hA0
  rw [Try.params9] at hA hval
  obtain ⟨v0, vs0, d0, ds0, p0, q0, hargs, rfl, rfl, h0, r0⟩ := trodAll_cons hA
  obtain ⟨v1, vs1, d1, ds1, p1, q1, rfl, rfl, rfl, h1, r1⟩ := trodAll_cons r0
  obtain ⟨rfl, rfl, rfl⟩ := trodAll_nil r1
  obtain rfl : args = #[v0, v1] := by cases args; simp_all
  obtain ⟨rfl, rfl⟩ := trodVars_none hV
  obtain ⟨a0, rfl, rfl, rfl, w0⟩ := open_int Try.underlying5 (hval 0 5 v0 rfl rfl) h0
  obtain ⟨a1, rfl, rfl, rfl, w1⟩ := open_int Try.underlying5 (hval 1 5 v1 rfl rfl) h1
  clear hA0
  simp only [List.append_nil] at hW'
  refine (holds a0 a1 w0 w1 W).mono fun e W' ⟨he, hg⟩ => ?_
  subst he
  exact ⟨_, rfl, post_mine (pa := []) (pv := []) hW' hg (fun _ _ _ => (trodAll_cons_mk (shut_bool Try.underlying4 _) trodAll_mk0)) (fun sp _ => (trodAll_cons_mk (shut_int Try.underlying5 w0) (trodAll_cons_mk (shut_int Try.underlying5 w1) trodAll_mk0))) (fun _ _ => rfl) rfl
    (ok_one (by kernel_rfl) rfl (okWide_bool_mk Try.underlying4 _))⟩

set_option maxRecDepth 100000 in
theorem lifted (os : Os) (started : os.Started) (H : Type) (enc : TypeId × Value → H) :
    ReturnsInHanded {} Try.checked os 9 .any (Rows.opNamesSpec.pre6 enc Try.prog Try.f9 Rows.opNamesRow.domain false) (Rows.opNamesSpec.post enc Try.prog Try.f9 false true false false) := by
  refine returnsInHanded_of_change (C := Try.checked) own started (by kernel_rfl) Try.func9
    (ChangeSpec.witness6 (enc := enc) (C := Try.checked) false ⟨#[], #[.int .u8 0, .int .u8 0], []⟩ 8 (by kernel_rfl) (by kernel_rfl) (by kernel_rfl) (by kernel_rfl)) ?_
  intro W base args ds gs before hval hW _ _
  exact contract H enc W base args ds gs before hval hW

theorem proved : Rows.OpNamesSaid :=
  OpenClaim.holds_of_wide 9 Try.f9 rfl rfl rfl rfl rfl rfl rfl ⟨rfl, rfl, rfl, rfl, rfl⟩ rfl rfl rfl rfl rfl (by kernel_rfl) Try.func9 (by kernel_rfl)
    (of_decide_eq_true (by kernel_rfl)) (by unfold Func.isWrapper; first | (rw [if_pos (by decide +kernel)]; kernel_rfl) | (rw [if_neg (by decide +kernel)]; exact ⟨rfl, rfl⟩))
    (fun os started H enc _ => lifted os started H enc)
end Go.Proofs.Ytceoheliineobaa.opNames
