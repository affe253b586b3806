/-
  'bonsai/bonsailaw24.GraftOnes' is true, whatever the input. No condition.
-/
import Derived.Test.YtihkhhekjkadpaaGreatEvTab
import Derived.OpenShut
namespace Go.Proofs.YtihkhhekjkadpaaGreat.graftOnes
open Go.Ev Go.ChangeShapes Go.WideShapes Go.ChangeAt Go.RowKit
set_option linter.unusedVariables false
set_option linter.unusedSimpArgs false

theorem c_0 (O : Addr → Option Value) : (isTrue (evalCallF (tabOf fs ts es ps) O 100000 60 6 [.bool (Nat.beq 0 1)] .empty)) = true := by kernel_rfl
theorem c_1 (O : Addr → Option Value) : (isTrue (evalCallF (tabOf fs ts es ps) O 100000 60 6 [.bool (Nat.beq 1 1)] .empty)) = true := by kernel_rfl
theorem eval (O : Addr → Option Value) (i0 : Nat) (h0 : i0 < 2) : isTrue (evalCallF (tabOf fs ts es ps) O 100000 60 6 [.bool (Nat.beq i0 1)] .empty) = true := by
  match i0, h0 with
  | 0, _ =>
    exact c_0 O
  | 1, _ =>
    exact c_1 O
  | q + 2, h => exact absurd h (by omega)
theorem holds (a0 : Bool)  (W : World) : Calls Tryz.prog 6 #[.bool a0] W fun e W' => e = .returned (.bool true) ∧ Stays W W' :=
  law_rel (lf := 100000) (k := 60) (fn := Tryz.f6) (l' := [.bool a0]) (by kernel_rfl) (by kernel_rfl) (.cons (bool_arg a0) .nil) (eval _ a0.toNat (bool_lt a0))

set_option maxRecDepth 100000 in
theorem contract (H : Type) (enc : TypeId × Value → H) (W : World) (base : Nat) (args : Array Value) (ds gs : List (DataW H)) (before : List MemPlace)
    (hval : ∀ (j : Nat) t v, Tryz.f6.params[j]? = some t → args[j]? = some v → Value.okWide Tryz.prog W .any base t v)
    (hW : DataW.Whole enc Tryz.prog Tryz.f6.params.toList Rows.graftOnesSpec.vars false W args.toList ds gs before) :
    Calls Tryz.prog 6 args W fun e W' => ∃ v, e = .returned v ∧ Rows.graftOnesSpec.post enc Tryz.prog Tryz.f6 false true false false W args v W' := by
  have hW' := hW
  obtain ⟨p, q, hA0, hV, rfl, hfz, hnd⟩ := hW
  have hA : DataW.TrodAll enc Tryz.prog W 0 (fun _ => true) true Tryz.f6.params.toList args.toList ds p := hA0
  rw [Tryz.params6] at hA hval
  obtain ⟨v0, vs0, d0, ds0, p0, q0, hargs, rfl, rfl, h0, r0⟩ := trodAll_cons hA
  obtain ⟨rfl, rfl, rfl⟩ := trodAll_nil r0
  obtain rfl : args = #[v0] := by cases args; simp_all
  obtain ⟨rfl, rfl⟩ := trodVars_none hV
  obtain ⟨a0, rfl, rfl, rfl⟩ := open_bool Tryz.underlying4 (hval 0 4 v0 rfl rfl) h0
  clear hA0
  simp only [List.append_nil] at hW'
  refine (holds a0 W).mono fun e W' ⟨he, hg⟩ => ?_
  subst he
  exact ⟨_, rfl, post_mine (pa := []) (pv := []) hW' hg (fun _ _ _ => (trodAll_cons_mk (shut_bool Tryz.underlying4 _) trodAll_mk0)) (fun sp _ => (trodAll_cons_mk (shut_bool Tryz.underlying4 a0) trodAll_mk0)) (fun _ _ => rfl) rfl
    (ok_one (by kernel_rfl) rfl (okWide_bool_mk Tryz.underlying4 _))⟩

set_option maxRecDepth 100000 in
theorem lifted (os : Os) (started : os.Started) (H : Type) (enc : TypeId × Value → H) :
    ReturnsInHanded {} Tryz.checked os 6 .any (Rows.graftOnesSpec.pre6 enc Tryz.prog Tryz.f6 Rows.graftOnesRow.domain false) (Rows.graftOnesSpec.post enc Tryz.prog Tryz.f6 false true false false) := by
  refine returnsInHanded_of_change (C := Tryz.checked) own started (by kernel_rfl) Tryz.func6
    (ChangeSpec.witness6 (enc := enc) (C := Tryz.checked) false ⟨#[], #[.bool false], []⟩ 8 (by kernel_rfl) (by kernel_rfl) (by kernel_rfl) (by kernel_rfl)) ?_
  intro W base args ds gs before hval hW _ _
  exact contract H enc W base args ds gs before hval hW

theorem proved : Rows.GraftOnesSaid :=
  OpenClaim.holds_of_wide 6 Tryz.f6 rfl rfl rfl rfl rfl rfl rfl ⟨rfl, rfl, rfl, rfl, rfl⟩ rfl rfl rfl rfl rfl (by kernel_rfl) Tryz.func6 (by kernel_rfl)
    (of_decide_eq_true (by kernel_rfl)) (by unfold Func.isWrapper; first | (rw [if_pos (by decide +kernel)]; kernel_rfl) | (rw [if_neg (by decide +kernel)]; exact ⟨rfl, rfl⟩))
    (fun os started H enc _ => lifted os started H enc)
end Go.Proofs.YtihkhhekjkadpaaGreat.graftOnes
