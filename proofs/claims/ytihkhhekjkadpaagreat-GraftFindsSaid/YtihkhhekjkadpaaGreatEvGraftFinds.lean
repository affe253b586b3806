/-
  'bonsai/bonsailaw24.GraftFinds' is true, whatever the input. No condition.
-/
import Derived.Test.YtihkhhekjkadpaaGreatEvTab
import Derived.OpenShut
namespace Go.Proofs.YtihkhhekjkadpaaGreat.graftFinds
open Go.Ev Go.ChangeShapes Go.WideShapes Go.ChangeAt Go.RowKit
set_option linter.unusedVariables false
set_option linter.unusedSimpArgs false

theorem c_0 (O : Addr → Option Value) : (allB 2 fun i1 => (allB 2 fun i2 => (allB 2 fun i3 => (allB 2 fun i4 => (allB 2 fun i5 => isTrue (evalCallF (tabOf fs ts es ps) O 100000 60 5 [.complex .f32 2 0, .bool (Nat.beq i1 1), .bool (Nat.beq i2 1), .complex .f32 2 i3, .bool (Nat.beq i4 1), .bool (Nat.beq i5 1)] .empty)))))) = true := by kernel_rfl
theorem c_1 (O : Addr → Option Value) : (allB 2 fun i1 => (allB 2 fun i2 => (allB 2 fun i3 => (allB 2 fun i4 => (allB 2 fun i5 => isTrue (evalCallF (tabOf fs ts es ps) O 100000 60 5 [.complex .f32 2 1, .bool (Nat.beq i1 1), .bool (Nat.beq i2 1), .complex .f32 2 i3, .bool (Nat.beq i4 1), .bool (Nat.beq i5 1)] .empty)))))) = true := by kernel_rfl
theorem eval (O : Addr → Option Value) (i0 i1 i2 i3 i4 i5 : Nat) (h0 : i0 < 2) (h1 : i1 < 2) (h2 : i2 < 2) (h3 : i3 < 2) (h4 : i4 < 2) (h5 : i5 < 2) : isTrue (evalCallF (tabOf fs ts es ps) O 100000 60 5 [.complex .f32 2 i0, .bool (Nat.beq i1 1), .bool (Nat.beq i2 1), .complex .f32 2 i3, .bool (Nat.beq i4 1), .bool (Nat.beq i5 1)] .empty) = true := by
  match i0, h0 with
  | 0, _ =>
    exact allB_spec (allB_spec (allB_spec (allB_spec (allB_spec (c_0 O) i1 h1) i2 h2) i3 h3) i4 h4) i5 h5
  | 1, _ =>
    exact allB_spec (allB_spec (allB_spec (allB_spec (allB_spec (c_1 O) i1 h1) i2 h2) i3 h3) i4 h4) i5 h5
  | q + 2, h => exact absurd h (by omega)
theorem holds (a0 : Int) (a1 : Bool) (a2 : Bool) (a3 : Int) (a4 : Bool) (a5 : Bool) (w0 : (Lit.int .u8 a0).wf = true) (w3 : (Lit.int .u8 a3).wf = true) (W : World) : Calls Tryz.prog 5 #[.int .u8 a0, .bool a1, .bool a2, .int .u8 a3, .bool a4, .bool a5] W fun e W' => e = .returned (.bool true) ∧ Stays W W' :=
  law_rel (lf := 100000) (k := 60) (fn := Tryz.f5) (l' := [.int .u8 a0, .bool a1, .bool a2, .int .u8 a3, .bool a4, .bool a5]) (by kernel_rfl) (by kernel_rfl) (.cons (res_arg w0) (.cons (bool_arg a1) (.cons (bool_arg a2) (.cons (res_arg w3) (.cons (bool_arg a4) (.cons (bool_arg a5) .nil)))))) (eval _ (a0.toNat % 2) a1.toNat a2.toNat (a3.toNat % 2) a4.toNat a5.toNat (Nat.mod_lt _ (by decide)) (bool_lt a1) (bool_lt a2) (Nat.mod_lt _ (by decide)) (bool_lt a4) (bool_lt a5))

set_option maxRecDepth 100000 in
theorem contract (H : Type) (enc : TypeId × Value → H) (W : World) (base : Nat) (args : Array Value) (ds gs : List (DataW H)) (before : List MemPlace)
    (hval : ∀ (j : Nat) t v, Tryz.f5.params[j]? = some t → args[j]? = some v → Value.okWide Tryz.prog W .any base t v)
    (hW : DataW.Whole enc Tryz.prog Tryz.f5.params.toList Rows.graftFindsSpec.vars false W args.toList ds gs before) :
    Calls Tryz.prog 5 args W fun e W' => ∃ v, e = .returned v ∧ Rows.graftFindsSpec.post enc Tryz.prog Tryz.f5 false true false false W args v W' := by
  have hW' := hW
  obtain ⟨p, q, hA0, hV, rfl, hfz, hnd⟩ := hW
  have hA : DataW.TrodAll enc Tryz.prog W 0 (fun _ => true) true Tryz.f5.params.toList args.toList ds p := hA0
  rw [Tryz.params5] at hA hval
  obtain ⟨v0, vs0, d0, ds0, p0, q0, hargs, rfl, rfl, h0, r0⟩ := trodAll_cons hA
  obtain ⟨v1, vs1, d1, ds1, p1, q1, rfl, rfl, rfl, h1, r1⟩ := trodAll_cons r0
  obtain ⟨v2, vs2, d2, ds2, p2, q2, rfl, rfl, rfl, h2, r2⟩ := trodAll_cons r1
  obtain ⟨v3, vs3, d3, ds3, p3, q3, rfl, rfl, rfl, h3, r3⟩ := trodAll_cons r2
  obtain ⟨v4, vs4, d4, ds4, p4, q4, rfl, rfl, rfl, h4, r4⟩ := trodAll_cons r3
  obtain ⟨v5, vs5, d5, ds5, p5, q5, rfl, rfl, rfl, h5, r5⟩ := trodAll_cons r4
  obtain ⟨rfl, rfl, rfl⟩ := trodAll_nil r5
  obtain rfl : args = #[v0, v1, v2, v3, v4, v5] := by cases args; simp_all
  obtain ⟨rfl, rfl⟩ := trodVars_none hV
  obtain ⟨a0, rfl, rfl, rfl, w0⟩ := open_int Tryz.underlying5 (hval 0 5 v0 rfl rfl) h0
  obtain ⟨a1, rfl, rfl, rfl⟩ := open_bool Tryz.underlying4 (hval 1 4 v1 rfl rfl) h1
  obtain ⟨a2, rfl, rfl, rfl⟩ := open_bool Tryz.underlying4 (hval 2 4 v2 rfl rfl) h2
  obtain ⟨a3, rfl, rfl, rfl, w3⟩ := open_int Tryz.underlying5 (hval 3 5 v3 rfl rfl) h3
  obtain ⟨a4, rfl, rfl, rfl⟩ := open_bool Tryz.underlying4 (hval 4 4 v4 rfl rfl) h4
  obtain ⟨a5, rfl, rfl, rfl⟩ := open_bool Tryz.underlying4 (hval 5 4 v5 rfl rfl) h5
  clear hA0
  simp only [List.append_nil] at hW'
  refine (holds a0 a1 a2 a3 a4 a5 w0 w3 W).mono fun e W' ⟨he, hg⟩ => ?_
  subst he
  exact ⟨_, rfl, post_mine (pa := []) (pv := []) hW' hg (fun _ _ _ => (trodAll_cons_mk (shut_bool Tryz.underlying4 _) trodAll_mk0)) (fun sp _ => (trodAll_cons_mk (shut_int Tryz.underlying5 w0) (trodAll_cons_mk (shut_bool Tryz.underlying4 a1) (trodAll_cons_mk (shut_bool Tryz.underlying4 a2) (trodAll_cons_mk (shut_int Tryz.underlying5 w3) (trodAll_cons_mk (shut_bool Tryz.underlying4 a4) (trodAll_cons_mk (shut_bool Tryz.underlying4 a5) trodAll_mk0))))))) (fun _ _ => rfl) rfl
    (ok_one (by kernel_rfl) rfl (okWide_bool_mk Tryz.underlying4 _))⟩

set_option maxRecDepth 100000 in
theorem lifted (os : Os) (started : os.Started) (H : Type) (enc : TypeId × Value → H) :
    ReturnsInHanded {} Tryz.checked os 5 .any (Rows.graftFindsSpec.pre6 enc Tryz.prog Tryz.f5 Rows.graftFindsRow.domain false) (Rows.graftFindsSpec.post enc Tryz.prog Tryz.f5 false true false false) := by
  refine returnsInHanded_of_change (C := Tryz.checked) own started (by kernel_rfl) Tryz.func5
    (ChangeSpec.witness6 (enc := enc) (C := Tryz.checked) false ⟨#[], #[.int .u8 0, .bool false, .bool false, .int .u8 0, .bool false, .bool false], []⟩ 8 (by kernel_rfl) (by kernel_rfl) (by kernel_rfl) (by kernel_rfl)) ?_
  intro W base args ds gs before hval hW _ _
  exact contract H enc W base args ds gs before hval hW

theorem proved : Rows.GraftFindsSaid :=
  OpenClaim.holds_of_wide 5 Tryz.f5 rfl rfl rfl rfl rfl rfl rfl ⟨rfl, rfl, rfl, rfl, rfl⟩ rfl rfl rfl rfl rfl (by kernel_rfl) Tryz.func5 (by kernel_rfl)
    (of_decide_eq_true (by kernel_rfl)) (by unfold Func.isWrapper; first | (rw [if_pos (by decide +kernel)]; kernel_rfl) | (rw [if_neg (by decide +kernel)]; exact ⟨rfl, rfl⟩))
    (fun os started H enc _ => lifted os started H enc)
end Go.Proofs.YtihkhhekjkadpaaGreat.graftFinds
