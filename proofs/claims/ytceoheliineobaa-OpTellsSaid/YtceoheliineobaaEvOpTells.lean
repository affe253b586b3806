/-
  'bonsai/bonsailaw3.OpTells' is true, whatever the input. No condition.
-/
import Derived.Test.YtceoheliineobaaEvTab
import Derived.Test.YtceoheliineobaaEvFar
import Derived.OpenShut
namespace Go.Proofs.Ytceoheliineobaa.opTells
open Go.Ev Go.ChangeShapes Go.WideShapes Go.ChangeAt Go.RowKit
open Go.ChangeMaps (open_string shut_string)
set_option linter.unusedVariables false
set_option linter.unusedSimpArgs false

theorem c_0 (O : Addr → Option Value) : (allB 50 fun r => isTrue (evalCallF (tabOf fs ts es ps Know.nil) O 100000 60 7 [.int .i64 (Int.ofNat 0), .complex .f32 50 r] .empty)) = true := by kernel_rfl
theorem c_1 (O : Addr → Option Value) : (allB 50 fun r => isTrue (evalCallF (tabOf fs ts es ps Know.nil) O 100000 60 7 [.int .i64 (Int.ofNat 1), .complex .f32 50 r] .empty)) = true := by kernel_rfl
theorem c_2 (O : Addr → Option Value) : (allB 50 fun r => isTrue (evalCallF (tabOf fs ts es ps Know.nil) O 100000 60 7 [.int .i64 (Int.ofNat 2), .complex .f32 50 r] .empty)) = true := by kernel_rfl
theorem c_3 (O : Addr → Option Value) : (allB 50 fun r => isTrue (evalCallF (tabOf fs ts es ps Know.nil) O 100000 60 7 [.int .i64 (Int.ofNat 3), .complex .f32 50 r] .empty)) = true := by kernel_rfl
theorem c_4 (O : Addr → Option Value) : (allB 50 fun r => isTrue (evalCallF (tabOf fs ts es ps Know.nil) O 100000 60 7 [.int .i64 (Int.ofNat 4), .complex .f32 50 r] .empty)) = true := by kernel_rfl
theorem c_5 (O : Addr → Option Value) : (allB 50 fun r => isTrue (evalCallF (tabOf fs ts es ps Know.nil) O 100000 60 7 [.int .i64 (Int.ofNat 5), .complex .f32 50 r] .empty)) = true := by kernel_rfl
theorem c_6 (O : Addr → Option Value) : (allB 50 fun r => isTrue (evalCallF (tabOf fs ts es ps Know.nil) O 100000 60 7 [.int .i64 (Int.ofNat 6), .complex .f32 50 r] .empty)) = true := by kernel_rfl
theorem c_7 (O : Addr → Option Value) : (allB 50 fun r => isTrue (evalCallF (tabOf fs ts es ps Know.nil) O 100000 60 7 [.int .i64 (Int.ofNat 7), .complex .f32 50 r] .empty)) = true := by kernel_rfl
theorem c_8 (O : Addr → Option Value) : (allB 50 fun r => isTrue (evalCallF (tabOf fs ts es ps Know.nil) O 100000 60 7 [.int .i64 (Int.ofNat 8), .complex .f32 50 r] .empty)) = true := by kernel_rfl
theorem c_9 (O : Addr → Option Value) : (allB 50 fun r => isTrue (evalCallF (tabOf fs ts es ps Know.nil) O 100000 60 7 [.int .i64 (Int.ofNat 9), .complex .f32 50 r] .empty)) = true := by kernel_rfl
theorem c_10 (O : Addr → Option Value) : (allB 50 fun r => isTrue (evalCallF (tabOf fs ts es ps Know.nil) O 100000 60 7 [.int .i64 (Int.ofNat 10), .complex .f32 50 r] .empty)) = true := by kernel_rfl
theorem c_11 (O : Addr → Option Value) : (allB 50 fun r => isTrue (evalCallF (tabOf fs ts es ps Know.nil) O 100000 60 7 [.int .i64 (Int.ofNat 11), .complex .f32 50 r] .empty)) = true := by kernel_rfl
theorem c_12 (O : Addr → Option Value) : (allB 50 fun r => isTrue (evalCallF (tabOf fs ts es ps Know.nil) O 100000 60 7 [.int .i64 (Int.ofNat 12), .complex .f32 50 r] .empty)) = true := by kernel_rfl
theorem c_13 (O : Addr → Option Value) : (allB 50 fun r => isTrue (evalCallF (tabOf fs ts es ps Know.nil) O 100000 60 7 [.int .i64 (Int.ofNat 13), .complex .f32 50 r] .empty)) = true := by kernel_rfl
theorem c_14 (O : Addr → Option Value) : (allB 50 fun r => isTrue (evalCallF (tabOf fs ts es ps Know.nil) O 100000 60 7 [.int .i64 (Int.ofNat 14), .complex .f32 50 r] .empty)) = true := by kernel_rfl
theorem c_15 (O : Addr → Option Value) : (allB 50 fun r => isTrue (evalCallF (tabOf fs ts es ps Know.nil) O 100000 60 7 [.int .i64 (Int.ofNat 15), .complex .f32 50 r] .empty)) = true := by kernel_rfl
theorem c_16 (O : Addr → Option Value) : (allB 50 fun r => isTrue (evalCallF (tabOf fs ts es ps Know.nil) O 100000 60 7 [.int .i64 (Int.ofNat 16), .complex .f32 50 r] .empty)) = true := by kernel_rfl
theorem c_17 (O : Addr → Option Value) : (allB 50 fun r => isTrue (evalCallF (tabOf fs ts es ps Know.nil) O 100000 60 7 [.int .i64 (Int.ofNat 17), .complex .f32 50 r] .empty)) = true := by kernel_rfl
theorem c_18 (O : Addr → Option Value) : (allB 50 fun r => isTrue (evalCallF (tabOf fs ts es ps Know.nil) O 100000 60 7 [.int .i64 (Int.ofNat 18), .complex .f32 50 r] .empty)) = true := by kernel_rfl
theorem c_19 (O : Addr → Option Value) : (allB 50 fun r => isTrue (evalCallF (tabOf fs ts es ps Know.nil) O 100000 60 7 [.int .i64 (Int.ofNat 19), .complex .f32 50 r] .empty)) = true := by kernel_rfl
theorem c_20 (O : Addr → Option Value) : (allB 50 fun r => isTrue (evalCallF (tabOf fs ts es ps Know.nil) O 100000 60 7 [.int .i64 (Int.ofNat 20), .complex .f32 50 r] .empty)) = true := by kernel_rfl
theorem c_21 (O : Addr → Option Value) : (allB 50 fun r => isTrue (evalCallF (tabOf fs ts es ps Know.nil) O 100000 60 7 [.int .i64 (Int.ofNat 21), .complex .f32 50 r] .empty)) = true := by kernel_rfl
theorem c_22 (O : Addr → Option Value) : (allB 50 fun r => isTrue (evalCallF (tabOf fs ts es ps Know.nil) O 100000 60 7 [.int .i64 (Int.ofNat 22), .complex .f32 50 r] .empty)) = true := by kernel_rfl
theorem c_23 (O : Addr → Option Value) : (allB 50 fun r => isTrue (evalCallF (tabOf fs ts es ps Know.nil) O 100000 60 7 [.int .i64 (Int.ofNat 23), .complex .f32 50 r] .empty)) = true := by kernel_rfl
theorem c_24 (O : Addr → Option Value) : (allB 50 fun r => isTrue (evalCallF (tabOf fs ts es ps Know.nil) O 100000 60 7 [.int .i64 (Int.ofNat 24), .complex .f32 50 r] .empty)) = true := by kernel_rfl
theorem c_25 (O : Addr → Option Value) : (allB 50 fun r => isTrue (evalCallF (tabOf fs ts es ps Know.nil) O 100000 60 7 [.int .i64 (Int.ofNat 25), .complex .f32 50 r] .empty)) = true := by kernel_rfl
theorem c_26 (O : Addr → Option Value) : (allB 50 fun r => isTrue (evalCallF (tabOf fs ts es ps Know.nil) O 100000 60 7 [.int .i64 (Int.ofNat 26), .complex .f32 50 r] .empty)) = true := by kernel_rfl
theorem c_27 (O : Addr → Option Value) : (allB 50 fun r => isTrue (evalCallF (tabOf fs ts es ps Know.nil) O 100000 60 7 [.int .i64 (Int.ofNat 27), .complex .f32 50 r] .empty)) = true := by kernel_rfl
theorem c_28 (O : Addr → Option Value) : (allB 50 fun r => isTrue (evalCallF (tabOf fs ts es ps Know.nil) O 100000 60 7 [.int .i64 (Int.ofNat 28), .complex .f32 50 r] .empty)) = true := by kernel_rfl
theorem c_29 (O : Addr → Option Value) : (allB 50 fun r => isTrue (evalCallF (tabOf fs ts es ps Know.nil) O 100000 60 7 [.int .i64 (Int.ofNat 29), .complex .f32 50 r] .empty)) = true := by kernel_rfl
theorem c_30 (O : Addr → Option Value) : (allB 50 fun r => isTrue (evalCallF (tabOf fs ts es ps Know.nil) O 100000 60 7 [.int .i64 (Int.ofNat 30), .complex .f32 50 r] .empty)) = true := by kernel_rfl
theorem c_31 (O : Addr → Option Value) : (allB 50 fun r => isTrue (evalCallF (tabOf fs ts es ps Know.nil) O 100000 60 7 [.int .i64 (Int.ofNat 31), .complex .f32 50 r] .empty)) = true := by kernel_rfl
theorem c_32 (O : Addr → Option Value) : (allB 50 fun r => isTrue (evalCallF (tabOf fs ts es ps Know.nil) O 100000 60 7 [.int .i64 (Int.ofNat 32), .complex .f32 50 r] .empty)) = true := by kernel_rfl
theorem c_33 (O : Addr → Option Value) : (allB 50 fun r => isTrue (evalCallF (tabOf fs ts es ps Know.nil) O 100000 60 7 [.int .i64 (Int.ofNat 33), .complex .f32 50 r] .empty)) = true := by kernel_rfl
theorem c_34 (O : Addr → Option Value) : (allB 50 fun r => isTrue (evalCallF (tabOf fs ts es ps Know.nil) O 100000 60 7 [.int .i64 (Int.ofNat 34), .complex .f32 50 r] .empty)) = true := by kernel_rfl
theorem c_35 (O : Addr → Option Value) : (allB 50 fun r => isTrue (evalCallF (tabOf fs ts es ps Know.nil) O 100000 60 7 [.int .i64 (Int.ofNat 35), .complex .f32 50 r] .empty)) = true := by kernel_rfl
theorem c_36 (O : Addr → Option Value) : (allB 50 fun r => isTrue (evalCallF (tabOf fs ts es ps Know.nil) O 100000 60 7 [.int .i64 (Int.ofNat 36), .complex .f32 50 r] .empty)) = true := by kernel_rfl
theorem c_37 (O : Addr → Option Value) : (allB 50 fun r => isTrue (evalCallF (tabOf fs ts es ps Know.nil) O 100000 60 7 [.int .i64 (Int.ofNat 37), .complex .f32 50 r] .empty)) = true := by kernel_rfl
theorem c_38 (O : Addr → Option Value) : (allB 50 fun r => isTrue (evalCallF (tabOf fs ts es ps Know.nil) O 100000 60 7 [.int .i64 (Int.ofNat 38), .complex .f32 50 r] .empty)) = true := by kernel_rfl
theorem c_39 (O : Addr → Option Value) : (allB 50 fun r => isTrue (evalCallF (tabOf fs ts es ps Know.nil) O 100000 60 7 [.int .i64 (Int.ofNat 39), .complex .f32 50 r] .empty)) = true := by kernel_rfl
theorem c_40 (O : Addr → Option Value) : (allB 50 fun r => isTrue (evalCallF (tabOf fs ts es ps Know.nil) O 100000 60 7 [.int .i64 (Int.ofNat 40), .complex .f32 50 r] .empty)) = true := by kernel_rfl
theorem c_41 (O : Addr → Option Value) : (allB 50 fun r => isTrue (evalCallF (tabOf fs ts es ps Know.nil) O 100000 60 7 [.int .i64 (Int.ofNat 41), .complex .f32 50 r] .empty)) = true := by kernel_rfl
theorem c_42 (O : Addr → Option Value) : (allB 50 fun r => isTrue (evalCallF (tabOf fs ts es ps Know.nil) O 100000 60 7 [.int .i64 (Int.ofNat 42), .complex .f32 50 r] .empty)) = true := by kernel_rfl
theorem c_43 (O : Addr → Option Value) : (allB 50 fun r => isTrue (evalCallF (tabOf fs ts es ps Know.nil) O 100000 60 7 [.int .i64 (Int.ofNat 43), .complex .f32 50 r] .empty)) = true := by kernel_rfl
theorem c_44 (O : Addr → Option Value) : (allB 50 fun r => isTrue (evalCallF (tabOf fs ts es ps Know.nil) O 100000 60 7 [.int .i64 (Int.ofNat 44), .complex .f32 50 r] .empty)) = true := by kernel_rfl
theorem c_low (O : Addr → Option Value) (o : Int) : (allB 50 fun r => isTrue (evalCallF (tabOf fs ts es ps (far false 45 o)) O 100000 60 7 [.chan (some 0), .complex .f32 50 r] .empty)) = true := by kernel_rfl
theorem c_high (O : Addr → Option Value) (o : Int) : (allB 50 fun r => isTrue (evalCallF (tabOf fs ts es ps (far true 45 o)) O 100000 60 7 [.chan (some 0), .complex .f32 50 r] .empty)) = true := by kernel_rfl
theorem eval (O : Addr → Option Value) (i r : Nat) (h : i < 45) (hr : r < 50) : isTrue (evalCallF (tabOf fs ts es ps Know.nil) O 100000 60 7 [.int .i64 (Int.ofNat i), .complex .f32 50 r] .empty) = true := by
  match i, h with
  | 0, _ => exact allB_spec (c_0 O) r hr
  | 1, _ => exact allB_spec (c_1 O) r hr
  | 2, _ => exact allB_spec (c_2 O) r hr
  | 3, _ => exact allB_spec (c_3 O) r hr
  | 4, _ => exact allB_spec (c_4 O) r hr
  | 5, _ => exact allB_spec (c_5 O) r hr
  | 6, _ => exact allB_spec (c_6 O) r hr
  | 7, _ => exact allB_spec (c_7 O) r hr
  | 8, _ => exact allB_spec (c_8 O) r hr
  | 9, _ => exact allB_spec (c_9 O) r hr
  | 10, _ => exact allB_spec (c_10 O) r hr
  | 11, _ => exact allB_spec (c_11 O) r hr
  | 12, _ => exact allB_spec (c_12 O) r hr
  | 13, _ => exact allB_spec (c_13 O) r hr
  | 14, _ => exact allB_spec (c_14 O) r hr
  | 15, _ => exact allB_spec (c_15 O) r hr
  | 16, _ => exact allB_spec (c_16 O) r hr
  | 17, _ => exact allB_spec (c_17 O) r hr
  | 18, _ => exact allB_spec (c_18 O) r hr
  | 19, _ => exact allB_spec (c_19 O) r hr
  | 20, _ => exact allB_spec (c_20 O) r hr
  | 21, _ => exact allB_spec (c_21 O) r hr
  | 22, _ => exact allB_spec (c_22 O) r hr
  | 23, _ => exact allB_spec (c_23 O) r hr
  | 24, _ => exact allB_spec (c_24 O) r hr
  | 25, _ => exact allB_spec (c_25 O) r hr
  | 26, _ => exact allB_spec (c_26 O) r hr
  | 27, _ => exact allB_spec (c_27 O) r hr
  | 28, _ => exact allB_spec (c_28 O) r hr
  | 29, _ => exact allB_spec (c_29 O) r hr
  | 30, _ => exact allB_spec (c_30 O) r hr
  | 31, _ => exact allB_spec (c_31 O) r hr
  | 32, _ => exact allB_spec (c_32 O) r hr
  | 33, _ => exact allB_spec (c_33 O) r hr
  | 34, _ => exact allB_spec (c_34 O) r hr
  | 35, _ => exact allB_spec (c_35 O) r hr
  | 36, _ => exact allB_spec (c_36 O) r hr
  | 37, _ => exact allB_spec (c_37 O) r hr
  | 38, _ => exact allB_spec (c_38 O) r hr
  | 39, _ => exact allB_spec (c_39 O) r hr
  | 40, _ => exact allB_spec (c_40 O) r hr
  | 41, _ => exact allB_spec (c_41 O) r hr
  | 42, _ => exact allB_spec (c_42 O) r hr
  | 43, _ => exact allB_spec (c_43 O) r hr
  | 44, _ => exact allB_spec (c_44 O) r hr
  | q + 45, h => exact absurd h (by omega)
theorem holds (a0 : Int) (a1 : Int) (w0 : (Lit.int .i64 a0).wf = true) (w1 : (Lit.int .u8 a1).wf = true) (W : World) : Calls Try.prog 7 #[.int .i64 a0, .int .u8 a1] W fun e W' => e = .returned (.bool true) ∧ Stays W W' := by
  by_cases h0 : a0 < 0
  · exact law_rel (far_ok (above := false) (n := 45) (o := a0) (by simpa using h0)) (lf := 100000) (k := 60) (fn := Try.f7) (l' := [.int .i64 a0, .int .u8 a1]) (by kernel_rfl) (by kernel_rfl) (.cons far_arg (.cons (res_arg w1) .nil)) (allB_spec (c_low _ a0) (a1.toNat % 50) (Nat.mod_lt _ (by decide)))
  · by_cases h1 : a0 < 45
    · have e : a0 = Int.ofNat a0.toNat := by simp; omega
      have hv : V (Ren.start Know.nil.sym) (.int .i64 (Int.ofNat a0.toNat)) (.int .i64 a0) := by rw [← e]; exact .flat rfl
      exact law_rel Know.nil_ok (lf := 100000) (k := 60) (fn := Try.f7) (l' := [.int .i64 a0, .int .u8 a1]) (by kernel_rfl) (by kernel_rfl) (.cons hv (.cons (res_arg w1) .nil)) (eval _ a0.toNat (a1.toNat % 50) (by omega) (Nat.mod_lt _ (by decide)))
    · exact law_rel (far_ok (above := true) (n := 45) (o := a0) (by simp; omega)) (lf := 100000) (k := 60) (fn := Try.f7) (l' := [.int .i64 a0, .int .u8 a1]) (by kernel_rfl) (by kernel_rfl) (.cons far_arg (.cons (res_arg w1) .nil)) (allB_spec (c_high _ a0) (a1.toNat % 50) (Nat.mod_lt _ (by decide)))

set_option maxRecDepth 100000 in
theorem contract (H : Type) (enc : TypeId × Value → H) (W : World) (base : Nat) (args : Array Value) (ds gs : List (DataW H)) (before : List MemPlace)
    (hval : ∀ (j : Nat) t v, Try.f7.params[j]? = some t → args[j]? = some v → Value.okWide Try.prog W .any base t v)
    (hW : DataW.Whole enc Try.prog Try.f7.params.toList Rows.opTellsSpec.vars false W args.toList ds gs before) :
    Calls Try.prog 7 args W fun e W' => ∃ v, e = .returned v ∧ Rows.opTellsSpec.post enc Try.prog Try.f7 false true false false W args v W' := by
  have hW' := hW
  obtain ⟨p, q, hA0, hV, rfl, hfz, hnd⟩ := hW
  have hA : DataW.TrodAll enc Try.prog W 0 (fun _ => true) true Try.f7.params.toList args.toList ds p := hA0
  rw [Try.params7] at hA hval
  obtain ⟨v0, vs0, d0, ds0, p0, q0, hargs, rfl, rfl, h0, r0⟩ := trodAll_cons hA
  obtain ⟨v1, vs1, d1, ds1, p1, q1, rfl, rfl, rfl, h1, r1⟩ := trodAll_cons r0
  obtain ⟨rfl, rfl, rfl⟩ := trodAll_nil r1
  obtain rfl : args = #[v0, v1] := by cases args; simp_all
  obtain ⟨rfl, rfl⟩ := trodVars_none hV
  obtain ⟨a0, rfl, rfl, rfl, w0⟩ := open_int Try.underlying3 (hval 0 3 v0 rfl rfl) h0
  obtain ⟨a1, rfl, rfl, rfl, w1⟩ := open_int Try.underlying5 (hval 1 5 v1 rfl rfl) h1
  clear hA0
  simp only [List.append_nil] at hW'
  refine (holds a0 a1 w0 w1 W).mono fun e W' ⟨he, hg⟩ => ?_
  subst he
  exact ⟨_, rfl, post_mine (pa := []) (pv := []) hW' hg (fun _ _ _ => (trodAll_cons_mk (shut_bool Try.underlying4 _) trodAll_mk0)) (fun sp _ => (trodAll_cons_mk (shut_int Try.underlying3 w0) (trodAll_cons_mk (shut_int Try.underlying5 w1) trodAll_mk0))) (fun _ _ => rfl) rfl
    (ok_one (by kernel_rfl) rfl (okWide_bool_mk Try.underlying4 _))⟩

set_option maxRecDepth 100000 in
theorem lifted (os : Os) (started : os.Started) (H : Type) (enc : TypeId × Value → H) :
    ReturnsInHanded {} Try.checked os 7 .any (Rows.opTellsSpec.pre6 enc Try.prog Try.f7 Rows.opTellsRow.domain false) (Rows.opTellsSpec.post enc Try.prog Try.f7 false true false false) := by
  refine returnsInHanded_of_change (C := Try.checked) own started (by kernel_rfl) Try.func7
    (ChangeSpec.witness6 (enc := enc) (C := Try.checked) false ⟨#[], #[.int .i64 0, .int .u8 0], []⟩ 8 (by kernel_rfl) (by kernel_rfl) (by kernel_rfl) (by kernel_rfl)) ?_
  intro W base args ds gs before hval hW _ _
  exact contract H enc W base args ds gs before hval hW

theorem proved : Rows.OpTellsSaid :=
  OpenClaim.holds_of_wide 7 Try.f7 rfl rfl rfl rfl rfl rfl rfl ⟨rfl, rfl, rfl, rfl, rfl⟩ rfl rfl rfl rfl rfl (by kernel_rfl) Try.func7 (by kernel_rfl)
    (of_decide_eq_true (by kernel_rfl)) (by unfold Func.isWrapper; first | (rw [if_pos (by decide +kernel)]; kernel_rfl) | (rw [if_neg (by decide +kernel)]; exact ⟨rfl, rfl⟩))
    (fun os started H enc _ => lifted os started H enc)
end Go.Proofs.Ytceoheliineobaa.opTells
