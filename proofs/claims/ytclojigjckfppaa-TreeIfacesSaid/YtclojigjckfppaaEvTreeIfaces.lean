/-
  'bonsai/bonsailaw8.TreeIfaces' is true, whatever the input. No condition.
-/
import Derived.Test.YtclojigjckfppaaEvTab
import Derived.OpenShut
namespace Go.Proofs.Ytclojigjckfppaa.treeIfaces
open Go.Ev Go.ChangeShapes Go.WideShapes Go.ChangeAt Go.RowKit
set_option linter.unusedVariables false
set_option linter.unusedSimpArgs false

theorem c_0 (O : Addr → Option Value) : (isTrue (evalCallF (tabOf fs ts es ps) O 100000 60 5 [.complex .f32 49 0] .empty)) = true := by kernel_rfl
theorem c_1 (O : Addr → Option Value) : (isTrue (evalCallF (tabOf fs ts es ps) O 100000 60 5 [.complex .f32 49 1] .empty)) = true := by kernel_rfl
theorem c_2 (O : Addr → Option Value) : (isTrue (evalCallF (tabOf fs ts es ps) O 100000 60 5 [.complex .f32 49 2] .empty)) = true := by kernel_rfl
theorem c_3 (O : Addr → Option Value) : (isTrue (evalCallF (tabOf fs ts es ps) O 100000 60 5 [.complex .f32 49 3] .empty)) = true := by kernel_rfl
theorem c_4 (O : Addr → Option Value) : (isTrue (evalCallF (tabOf fs ts es ps) O 100000 60 5 [.complex .f32 49 4] .empty)) = true := by kernel_rfl
theorem c_5 (O : Addr → Option Value) : (isTrue (evalCallF (tabOf fs ts es ps) O 100000 60 5 [.complex .f32 49 5] .empty)) = true := by kernel_rfl
theorem c_6 (O : Addr → Option Value) : (isTrue (evalCallF (tabOf fs ts es ps) O 100000 60 5 [.complex .f32 49 6] .empty)) = true := by kernel_rfl
theorem c_7 (O : Addr → Option Value) : (isTrue (evalCallF (tabOf fs ts es ps) O 100000 60 5 [.complex .f32 49 7] .empty)) = true := by kernel_rfl
theorem c_8 (O : Addr → Option Value) : (isTrue (evalCallF (tabOf fs ts es ps) O 100000 60 5 [.complex .f32 49 8] .empty)) = true := by kernel_rfl
theorem c_9 (O : Addr → Option Value) : (isTrue (evalCallF (tabOf fs ts es ps) O 100000 60 5 [.complex .f32 49 9] .empty)) = true := by kernel_rfl
theorem c_10 (O : Addr → Option Value) : (isTrue (evalCallF (tabOf fs ts es ps) O 100000 60 5 [.complex .f32 49 10] .empty)) = true := by kernel_rfl
theorem c_11 (O : Addr → Option Value) : (isTrue (evalCallF (tabOf fs ts es ps) O 100000 60 5 [.complex .f32 49 11] .empty)) = true := by kernel_rfl
theorem c_12 (O : Addr → Option Value) : (isTrue (evalCallF (tabOf fs ts es ps) O 100000 60 5 [.complex .f32 49 12] .empty)) = true := by kernel_rfl
theorem c_13 (O : Addr → Option Value) : (isTrue (evalCallF (tabOf fs ts es ps) O 100000 60 5 [.complex .f32 49 13] .empty)) = true := by kernel_rfl
theorem c_14 (O : Addr → Option Value) : (isTrue (evalCallF (tabOf fs ts es ps) O 100000 60 5 [.complex .f32 49 14] .empty)) = true := by kernel_rfl
theorem c_15 (O : Addr → Option Value) : (isTrue (evalCallF (tabOf fs ts es ps) O 100000 60 5 [.complex .f32 49 15] .empty)) = true := by kernel_rfl
theorem c_16 (O : Addr → Option Value) : (isTrue (evalCallF (tabOf fs ts es ps) O 100000 60 5 [.complex .f32 49 16] .empty)) = true := by kernel_rfl
theorem c_17 (O : Addr → Option Value) : (isTrue (evalCallF (tabOf fs ts es ps) O 100000 60 5 [.complex .f32 49 17] .empty)) = true := by kernel_rfl
theorem c_18 (O : Addr → Option Value) : (isTrue (evalCallF (tabOf fs ts es ps) O 100000 60 5 [.complex .f32 49 18] .empty)) = true := by kernel_rfl
theorem c_19 (O : Addr → Option Value) : (isTrue (evalCallF (tabOf fs ts es ps) O 100000 60 5 [.complex .f32 49 19] .empty)) = true := by kernel_rfl
theorem c_20 (O : Addr → Option Value) : (isTrue (evalCallF (tabOf fs ts es ps) O 100000 60 5 [.complex .f32 49 20] .empty)) = true := by kernel_rfl
theorem c_21 (O : Addr → Option Value) : (isTrue (evalCallF (tabOf fs ts es ps) O 100000 60 5 [.complex .f32 49 21] .empty)) = true := by kernel_rfl
theorem c_22 (O : Addr → Option Value) : (isTrue (evalCallF (tabOf fs ts es ps) O 100000 60 5 [.complex .f32 49 22] .empty)) = true := by kernel_rfl
theorem c_23 (O : Addr → Option Value) : (isTrue (evalCallF (tabOf fs ts es ps) O 100000 60 5 [.complex .f32 49 23] .empty)) = true := by kernel_rfl
theorem c_24 (O : Addr → Option Value) : (isTrue (evalCallF (tabOf fs ts es ps) O 100000 60 5 [.complex .f32 49 24] .empty)) = true := by kernel_rfl
theorem c_25 (O : Addr → Option Value) : (isTrue (evalCallF (tabOf fs ts es ps) O 100000 60 5 [.complex .f32 49 25] .empty)) = true := by kernel_rfl
theorem c_26 (O : Addr → Option Value) : (isTrue (evalCallF (tabOf fs ts es ps) O 100000 60 5 [.complex .f32 49 26] .empty)) = true := by kernel_rfl
theorem c_27 (O : Addr → Option Value) : (isTrue (evalCallF (tabOf fs ts es ps) O 100000 60 5 [.complex .f32 49 27] .empty)) = true := by kernel_rfl
theorem c_28 (O : Addr → Option Value) : (isTrue (evalCallF (tabOf fs ts es ps) O 100000 60 5 [.complex .f32 49 28] .empty)) = true := by kernel_rfl
theorem c_29 (O : Addr → Option Value) : (isTrue (evalCallF (tabOf fs ts es ps) O 100000 60 5 [.complex .f32 49 29] .empty)) = true := by kernel_rfl
theorem c_30 (O : Addr → Option Value) : (isTrue (evalCallF (tabOf fs ts es ps) O 100000 60 5 [.complex .f32 49 30] .empty)) = true := by kernel_rfl
theorem c_31 (O : Addr → Option Value) : (isTrue (evalCallF (tabOf fs ts es ps) O 100000 60 5 [.complex .f32 49 31] .empty)) = true := by kernel_rfl
theorem c_32 (O : Addr → Option Value) : (isTrue (evalCallF (tabOf fs ts es ps) O 100000 60 5 [.complex .f32 49 32] .empty)) = true := by kernel_rfl
theorem c_33 (O : Addr → Option Value) : (isTrue (evalCallF (tabOf fs ts es ps) O 100000 60 5 [.complex .f32 49 33] .empty)) = true := by kernel_rfl
theorem c_34 (O : Addr → Option Value) : (isTrue (evalCallF (tabOf fs ts es ps) O 100000 60 5 [.complex .f32 49 34] .empty)) = true := by kernel_rfl
theorem c_35 (O : Addr → Option Value) : (isTrue (evalCallF (tabOf fs ts es ps) O 100000 60 5 [.complex .f32 49 35] .empty)) = true := by kernel_rfl
theorem c_36 (O : Addr → Option Value) : (isTrue (evalCallF (tabOf fs ts es ps) O 100000 60 5 [.complex .f32 49 36] .empty)) = true := by kernel_rfl
theorem c_37 (O : Addr → Option Value) : (isTrue (evalCallF (tabOf fs ts es ps) O 100000 60 5 [.complex .f32 49 37] .empty)) = true := by kernel_rfl
theorem c_38 (O : Addr → Option Value) : (isTrue (evalCallF (tabOf fs ts es ps) O 100000 60 5 [.complex .f32 49 38] .empty)) = true := by kernel_rfl
theorem c_39 (O : Addr → Option Value) : (isTrue (evalCallF (tabOf fs ts es ps) O 100000 60 5 [.complex .f32 49 39] .empty)) = true := by kernel_rfl
theorem c_40 (O : Addr → Option Value) : (isTrue (evalCallF (tabOf fs ts es ps) O 100000 60 5 [.complex .f32 49 40] .empty)) = true := by kernel_rfl
theorem c_41 (O : Addr → Option Value) : (isTrue (evalCallF (tabOf fs ts es ps) O 100000 60 5 [.complex .f32 49 41] .empty)) = true := by kernel_rfl
theorem c_42 (O : Addr → Option Value) : (isTrue (evalCallF (tabOf fs ts es ps) O 100000 60 5 [.complex .f32 49 42] .empty)) = true := by kernel_rfl
theorem c_43 (O : Addr → Option Value) : (isTrue (evalCallF (tabOf fs ts es ps) O 100000 60 5 [.complex .f32 49 43] .empty)) = true := by kernel_rfl
theorem c_44 (O : Addr → Option Value) : (isTrue (evalCallF (tabOf fs ts es ps) O 100000 60 5 [.complex .f32 49 44] .empty)) = true := by kernel_rfl
theorem c_45 (O : Addr → Option Value) : (isTrue (evalCallF (tabOf fs ts es ps) O 100000 60 5 [.complex .f32 49 45] .empty)) = true := by kernel_rfl
theorem c_46 (O : Addr → Option Value) : (isTrue (evalCallF (tabOf fs ts es ps) O 100000 60 5 [.complex .f32 49 46] .empty)) = true := by kernel_rfl
theorem c_47 (O : Addr → Option Value) : (isTrue (evalCallF (tabOf fs ts es ps) O 100000 60 5 [.complex .f32 49 47] .empty)) = true := by kernel_rfl
theorem c_48 (O : Addr → Option Value) : (isTrue (evalCallF (tabOf fs ts es ps) O 100000 60 5 [.complex .f32 49 48] .empty)) = true := by kernel_rfl
theorem eval (O : Addr → Option Value) (i0 : Nat) (h0 : i0 < 49) : isTrue (evalCallF (tabOf fs ts es ps) O 100000 60 5 [.complex .f32 49 i0] .empty) = true := by
  match i0, h0 with
  | 0, _ =>
    exact c_0 O
  | 1, _ =>
    exact c_1 O
  | 2, _ =>
    exact c_2 O
  | 3, _ =>
    exact c_3 O
  | 4, _ =>
    exact c_4 O
  | 5, _ =>
    exact c_5 O
  | 6, _ =>
    exact c_6 O
  | 7, _ =>
    exact c_7 O
  | 8, _ =>
    exact c_8 O
  | 9, _ =>
    exact c_9 O
  | 10, _ =>
    exact c_10 O
  | 11, _ =>
    exact c_11 O
  | 12, _ =>
    exact c_12 O
  | 13, _ =>
    exact c_13 O
  | 14, _ =>
    exact c_14 O
  | 15, _ =>
    exact c_15 O
  | 16, _ =>
    exact c_16 O
  | 17, _ =>
    exact c_17 O
  | 18, _ =>
    exact c_18 O
  | 19, _ =>
    exact c_19 O
  | 20, _ =>
    exact c_20 O
  | 21, _ =>
    exact c_21 O
  | 22, _ =>
    exact c_22 O
  | 23, _ =>
    exact c_23 O
  | 24, _ =>
    exact c_24 O
  | 25, _ =>
    exact c_25 O
  | 26, _ =>
    exact c_26 O
  | 27, _ =>
    exact c_27 O
  | 28, _ =>
    exact c_28 O
  | 29, _ =>
    exact c_29 O
  | 30, _ =>
    exact c_30 O
  | 31, _ =>
    exact c_31 O
  | 32, _ =>
    exact c_32 O
  | 33, _ =>
    exact c_33 O
  | 34, _ =>
    exact c_34 O
  | 35, _ =>
    exact c_35 O
  | 36, _ =>
    exact c_36 O
  | 37, _ =>
    exact c_37 O
  | 38, _ =>
    exact c_38 O
  | 39, _ =>
    exact c_39 O
  | 40, _ =>
    exact c_40 O
  | 41, _ =>
    exact c_41 O
  | 42, _ =>
    exact c_42 O
  | 43, _ =>
    exact c_43 O
  | 44, _ =>
    exact c_44 O
  | 45, _ =>
    exact c_45 O
  | 46, _ =>
    exact c_46 O
  | 47, _ =>
    exact c_47 O
  | 48, _ =>
    exact c_48 O
  | q + 49, h => exact absurd h (by omega)
theorem holds (a0 : Int) (w0 : (Lit.int .u8 a0).wf = true) (W : World) : Calls Try.prog 5 #[.int .u8 a0] W fun e W' => e = .returned (.bool true) ∧ Stays W W' :=
  law_rel (lf := 100000) (k := 60) (fn := Try.f5) (l' := [.int .u8 a0]) (by kernel_rfl) (by kernel_rfl) (.cons (res_arg w0) .nil) (eval _ (a0.toNat % 49) (Nat.mod_lt _ (by decide)))

set_option maxRecDepth 100000 in
theorem contract (H : Type) (enc : TypeId × Value → H) (W : World) (base : Nat) (args : Array Value) (ds gs : List (DataW H)) (before : List MemPlace)
    (hval : ∀ (j : Nat) t v, Try.f5.params[j]? = some t → args[j]? = some v → Value.okWide Try.prog W .any base t v)
    (hW : DataW.Whole enc Try.prog Try.f5.params.toList Rows.treeIfacesSpec.vars false W args.toList ds gs before) :
    Calls Try.prog 5 args W fun e W' => ∃ v, e = .returned v ∧ Rows.treeIfacesSpec.post enc Try.prog Try.f5 false true false false W args v W' := by
  have hW' := hW
  obtain ⟨p, q, hA0, hV, rfl, hfz, hnd⟩ := hW
  have hA : DataW.TrodAll enc Try.prog W 0 (fun _ => true) true Try.f5.params.toList args.toList ds p := hA0
  rw [Try.params5] at hA hval
  obtain ⟨v0, vs0, d0, ds0, p0, q0, hargs, rfl, rfl, h0, r0⟩ := trodAll_cons hA
  obtain ⟨rfl, rfl, rfl⟩ := trodAll_nil r0
  obtain rfl : args = #[v0] := by cases args; simp_all
  obtain ⟨rfl, rfl⟩ := trodVars_none hV
  obtain ⟨a0, rfl, rfl, rfl, w0⟩ := open_int Try.underlying5 (hval 0 5 v0 rfl rfl) h0
  clear hA0
  simp only [List.append_nil] at hW'
  refine (holds a0 w0 W).mono fun e W' ⟨he, hg⟩ => ?_
  subst he
  exact ⟨_, rfl, post_mine (pa := []) (pv := []) hW' hg (fun _ _ _ => (trodAll_cons_mk (shut_bool Try.underlying4 _) trodAll_mk0)) (fun sp _ => (trodAll_cons_mk (shut_int Try.underlying5 w0) trodAll_mk0)) (fun _ _ => rfl) rfl
    (ok_one (by kernel_rfl) rfl (okWide_bool_mk Try.underlying4 _))⟩

set_option maxRecDepth 100000 in
theorem lifted (os : Os) (started : os.Started) (H : Type) (enc : TypeId × Value → H) :
    ReturnsInHanded {} Try.checked os 5 .any (Rows.treeIfacesSpec.pre6 enc Try.prog Try.f5 Rows.treeIfacesRow.domain false) (Rows.treeIfacesSpec.post enc Try.prog Try.f5 false true false false) := by
  refine returnsInHanded_of_change (C := Try.checked) own started (by kernel_rfl) Try.func5
    (ChangeSpec.witness6 (enc := enc) (C := Try.checked) false ⟨#[], #[.int .u8 0], []⟩ 8 (by kernel_rfl) (by kernel_rfl) (by kernel_rfl) (by kernel_rfl)) ?_
  intro W base args ds gs before hval hW _ _
  exact contract H enc W base args ds gs before hval hW

theorem proved : Rows.TreeIfacesSaid :=
  OpenClaim.holds_of_wide 5 Try.f5 rfl rfl rfl rfl rfl rfl rfl ⟨rfl, rfl, rfl, rfl, rfl⟩ rfl rfl rfl rfl rfl (by kernel_rfl) Try.func5 (by kernel_rfl)
    (of_decide_eq_true (by kernel_rfl)) (by unfold Func.isWrapper; first | (rw [if_pos (by decide +kernel)]; kernel_rfl) | (rw [if_neg (by decide +kernel)]; exact ⟨rfl, rfl⟩))
    (fun os started H enc _ => lifted os started H enc)
end Go.Proofs.Ytclojigjckfppaa.treeIfaces
