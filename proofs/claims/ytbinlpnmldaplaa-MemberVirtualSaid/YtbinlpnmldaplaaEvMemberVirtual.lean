/-
  'bonsai/bonsailaw9.MemberVirtual' is true, whatever the input. No condition.
-/
import Derived.Test.YtbinlpnmldaplaaEvTab
import Derived.OpenShut
namespace Go.Proofs.Ytbinlpnmldaplaa.memberVirtual
open Go.Ev Go.ChangeShapes Go.WideShapes Go.ChangeAt Go.RowKit
set_option linter.unusedVariables false
set_option linter.unusedSimpArgs false

theorem c_0 (O : Addr → Option Value) : (allB 4 fun i1 => (allB 4 fun i2 => isTrue (evalCallF (tabOf fs ts es ps) O 100000 60 5 [.complex .f32 4 0, .complex .f32 4 i1, .complex .f32 4 i2] .empty))) = true := by kernel_rfl
theorem c_1 (O : Addr → Option Value) : (allB 4 fun i1 => (allB 4 fun i2 => isTrue (evalCallF (tabOf fs ts es ps) O 100000 60 5 [.complex .f32 4 1, .complex .f32 4 i1, .complex .f32 4 i2] .empty))) = true := by kernel_rfl
theorem c_2 (O : Addr → Option Value) : (allB 4 fun i1 => (allB 4 fun i2 => isTrue (evalCallF (tabOf fs ts es ps) O 100000 60 5 [.complex .f32 4 2, .complex .f32 4 i1, .complex .f32 4 i2] .empty))) = true := by kernel_rfl
theorem c_3 (O : Addr → Option Value) : (allB 4 fun i1 => (allB 4 fun i2 => isTrue (evalCallF (tabOf fs ts es ps) O 100000 60 5 [.complex .f32 4 3, .complex .f32 4 i1, .complex .f32 4 i2] .empty))) = true := by kernel_rfl
theorem eval (O : Addr → Option Value) (i0 i1 i2 : Nat) (h0 : i0 < 4) (h1 : i1 < 4) (h2 : i2 < 4) : isTrue (evalCallF (tabOf fs ts es ps) O 100000 60 5 [.complex .f32 4 i0, .complex .f32 4 i1, .complex .f32 4 i2] .empty) = true := by
  match i0, h0 with
  | 0, _ =>
    exact allB_spec (allB_spec (c_0 O) i1 h1) i2 h2
  | 1, _ =>
    exact allB_spec (allB_spec (c_1 O) i1 h1) i2 h2
  | 2, _ =>
    exact allB_spec (allB_spec (c_2 O) i1 h1) i2 h2
  | 3, _ =>
    exact allB_spec (allB_spec (c_3 O) i1 h1) i2 h2
  | q + 4, h => exact absurd h (by omega)
theorem holds (a0 : Int) (a1 : Int) (a2 : Int) (w0 : (Lit.int .u8 a0).wf = true) (w1 : (Lit.int .u8 a1).wf = true) (w2 : (Lit.int .u8 a2).wf = true) (W : World) : Calls Try.prog 5 #[.int .u8 a0, .int .u8 a1, .int .u8 a2] W fun e W' => e = .returned (.bool true) ∧ Stays W W' :=
  law_rel (lf := 100000) (k := 60) (fn := Try.f5) (l' := [.int .u8 a0, .int .u8 a1, .int .u8 a2]) (by kernel_rfl) (by kernel_rfl) (.cons (res_arg w0) (.cons (res_arg w1) (.cons (res_arg w2) .nil))) (eval _ (a0.toNat % 4) (a1.toNat % 4) (a2.toNat % 4) (Nat.mod_lt _ (by decide)) (Nat.mod_lt _ (by decide)) (Nat.mod_lt _ (by decide)))

set_option maxRecDepth 100000 in
theorem contract (H : Type) (enc : TypeId × Value → H) (W : World) (base : Nat) (args : Array Value) (ds gs : List (DataW H)) (before : List MemPlace)
    (hval : ∀ (j : Nat) t v, Try.f5.params[j]? = some t → args[j]? = some v → Value.okWide Try.prog W .any base t v)
    (hW : DataW.Whole enc Try.prog Try.f5.params.toList Rows.memberVirtualSpec.vars false W args.toList ds gs before) :
    Calls Try.prog 5 args W fun e W' => ∃ v, e = .returned v ∧ Rows.memberVirtualSpec.post enc Try.prog Try.f5 false true false false W args v W' := by
  have hW' := hW
  obtain ⟨p, q, hA0, hV, rfl, hfz, hnd⟩ := hW
  have hA : DataW.TrodAll enc Try.prog W 0 (fun _ => true) true Try.f5.params.toList args.toList ds p := hA0
  rw [Try.params5] at hA hval
  obtain ⟨v0, vs0, d0, ds0, p0, q0, hargs, rfl, rfl, h0, r0⟩ := trodAll_cons hA
  obtain ⟨v1, vs1, d1, ds1, p1, q1, rfl, rfl, rfl, h1, r1⟩ := trodAll_cons r0
  obtain ⟨v2, vs2, d2, ds2, p2, q2, rfl, rfl, rfl, h2, r2⟩ := trodAll_cons r1
  obtain ⟨rfl, rfl, rfl⟩ := trodAll_nil r2
  obtain rfl : args = #[v0, v1, v2] := by cases args; simp_all
  obtain ⟨rfl, rfl⟩ := trodVars_none hV
  obtain ⟨a0, rfl, rfl, rfl, w0⟩ := open_int Try.underlying5 (hval 0 5 v0 rfl rfl) h0
  obtain ⟨a1, rfl, rfl, rfl, w1⟩ := open_int Try.underlying5 (hval 1 5 v1 rfl rfl) h1
  obtain ⟨a2, rfl, rfl, rfl, w2⟩ := open_int Try.underlying5 (hval 2 5 v2 rfl rfl) h2
  clear hA0
  simp only [List.append_nil] at hW'
  refine (holds a0 a1 a2 w0 w1 w2 W).mono fun e W' ⟨he, hg⟩ => ?_
  subst he
  exact ⟨_, rfl, post_mine (pa := []) (pv := []) hW' hg (fun _ _ _ => (trodAll_cons_mk (shut_bool Try.underlying4 _) trodAll_mk0)) (fun sp _ => (trodAll_cons_mk (shut_int Try.underlying5 w0) (trodAll_cons_mk (shut_int Try.underlying5 w1) (trodAll_cons_mk (shut_int Try.underlying5 w2) trodAll_mk0)))) (fun _ _ => rfl) rfl
    (ok_one (by kernel_rfl) rfl (okWide_bool_mk Try.underlying4 _))⟩

set_option maxRecDepth 100000 in
theorem lifted (os : Os) (started : os.Started) (H : Type) (enc : TypeId × Value → H) :
    ReturnsInHanded {} Try.checked os 5 .any (Rows.memberVirtualSpec.pre6 enc Try.prog Try.f5 Rows.memberVirtualRow.domain false) (Rows.memberVirtualSpec.post enc Try.prog Try.f5 false true false false) := by
  refine returnsInHanded_of_change (C := Try.checked) own started (by kernel_rfl) Try.func5
    (ChangeSpec.witness6 (enc := enc) (C := Try.checked) false ⟨#[], #[.int .u8 0, .int .u8 0, .int .u8 0], []⟩ 8 (by kernel_rfl) (by kernel_rfl) (by kernel_rfl) (by kernel_rfl)) ?_
  intro W base args ds gs before hval hW _ _
  exact contract H enc W base args ds gs before hval hW

theorem proved : Rows.MemberVirtualSaid :=
  OpenClaim.holds_of_wide 5 Try.f5 rfl rfl rfl rfl rfl rfl rfl ⟨rfl, rfl, rfl, rfl, rfl⟩ rfl rfl rfl rfl rfl (by kernel_rfl) Try.func5 (by kernel_rfl)
    (of_decide_eq_true (by kernel_rfl)) (by unfold Func.isWrapper; first | (rw [if_pos (by decide +kernel)]; kernel_rfl) | (rw [if_neg (by decide +kernel)]; exact ⟨rfl, rfl⟩))
    (fun os started H enc _ => lifted os started H enc)
end Go.Proofs.Ytbinlpnmldaplaa.memberVirtual
