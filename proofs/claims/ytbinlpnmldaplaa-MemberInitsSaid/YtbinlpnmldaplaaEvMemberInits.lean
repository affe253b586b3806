/-
  'bonsai/bonsailaw9.MemberInits' is true, whatever the input. No condition.
-/
import Derived.Test.YtbinlpnmldaplaaEvTab
import Derived.OpenShut
namespace Go.Proofs.Ytbinlpnmldaplaa.memberInits
open Go.Ev Go.ChangeShapes Go.WideShapes Go.ChangeAt Go.RowKit
set_option linter.unusedVariables false
set_option linter.unusedSimpArgs false

theorem c_0 (O : Addr → Option Value) : (allB 16 fun r => isTrue (evalCallF (tabOf fs ts es ps) O 100000 60 6 [.int .u8 (Int.ofNat (Nat.add 0 r))] .empty)) = true := by kernel_rfl
theorem c_1 (O : Addr → Option Value) : (allB 16 fun r => isTrue (evalCallF (tabOf fs ts es ps) O 100000 60 6 [.int .u8 (Int.ofNat (Nat.add 16 r))] .empty)) = true := by kernel_rfl
theorem c_2 (O : Addr → Option Value) : (allB 16 fun r => isTrue (evalCallF (tabOf fs ts es ps) O 100000 60 6 [.int .u8 (Int.ofNat (Nat.add 32 r))] .empty)) = true := by kernel_rfl
theorem c_3 (O : Addr → Option Value) : (allB 16 fun r => isTrue (evalCallF (tabOf fs ts es ps) O 100000 60 6 [.int .u8 (Int.ofNat (Nat.add 48 r))] .empty)) = true := by kernel_rfl
theorem c_4 (O : Addr → Option Value) : (allB 16 fun r => isTrue (evalCallF (tabOf fs ts es ps) O 100000 60 6 [.int .u8 (Int.ofNat (Nat.add 64 r))] .empty)) = true := by kernel_rfl
theorem c_5 (O : Addr → Option Value) : (allB 16 fun r => isTrue (evalCallF (tabOf fs ts es ps) O 100000 60 6 [.int .u8 (Int.ofNat (Nat.add 80 r))] .empty)) = true := by kernel_rfl
theorem c_6 (O : Addr → Option Value) : (allB 16 fun r => isTrue (evalCallF (tabOf fs ts es ps) O 100000 60 6 [.int .u8 (Int.ofNat (Nat.add 96 r))] .empty)) = true := by kernel_rfl
theorem c_7 (O : Addr → Option Value) : (allB 16 fun r => isTrue (evalCallF (tabOf fs ts es ps) O 100000 60 6 [.int .u8 (Int.ofNat (Nat.add 112 r))] .empty)) = true := by kernel_rfl
theorem c_8 (O : Addr → Option Value) : (allB 16 fun r => isTrue (evalCallF (tabOf fs ts es ps) O 100000 60 6 [.int .u8 (Int.ofNat (Nat.add 128 r))] .empty)) = true := by kernel_rfl
theorem c_9 (O : Addr → Option Value) : (allB 16 fun r => isTrue (evalCallF (tabOf fs ts es ps) O 100000 60 6 [.int .u8 (Int.ofNat (Nat.add 144 r))] .empty)) = true := by kernel_rfl
theorem c_10 (O : Addr → Option Value) : (allB 16 fun r => isTrue (evalCallF (tabOf fs ts es ps) O 100000 60 6 [.int .u8 (Int.ofNat (Nat.add 160 r))] .empty)) = true := by kernel_rfl
theorem c_11 (O : Addr → Option Value) : (allB 16 fun r => isTrue (evalCallF (tabOf fs ts es ps) O 100000 60 6 [.int .u8 (Int.ofNat (Nat.add 176 r))] .empty)) = true := by kernel_rfl
theorem c_12 (O : Addr → Option Value) : (allB 16 fun r => isTrue (evalCallF (tabOf fs ts es ps) O 100000 60 6 [.int .u8 (Int.ofNat (Nat.add 192 r))] .empty)) = true := by kernel_rfl
theorem c_13 (O : Addr → Option Value) : (allB 16 fun r => isTrue (evalCallF (tabOf fs ts es ps) O 100000 60 6 [.int .u8 (Int.ofNat (Nat.add 208 r))] .empty)) = true := by kernel_rfl
theorem c_14 (O : Addr → Option Value) : (allB 16 fun r => isTrue (evalCallF (tabOf fs ts es ps) O 100000 60 6 [.int .u8 (Int.ofNat (Nat.add 224 r))] .empty)) = true := by kernel_rfl
theorem c_15 (O : Addr → Option Value) : (allB 16 fun r => isTrue (evalCallF (tabOf fs ts es ps) O 100000 60 6 [.int .u8 (Int.ofNat (Nat.add 240 r))] .empty)) = true := by kernel_rfl
theorem eval (O : Addr → Option Value) (i0 : Nat) (h0 : i0 < 256) : isTrue (evalCallF (tabOf fs ts es ps) O 100000 60 6 [.int .u8 (Int.ofNat (i0))] .empty) = true := by
  obtain ⟨q, r, hq, hr, rfl⟩ : ∃ q r, q < 16 ∧ r < 16 ∧ i0 = Nat.add (16 * q) r := ⟨i0 / 16, i0 % 16, by omega, by omega, by show i0 = 16 * (i0 / 16) + i0 % 16; omega⟩
  match q, hq with
  | 0, _ => exact allB_spec (c_0 O) r hr
  | 1, _ => exact allB_spec (c_1 O) r hr
  | 2, _ => exact allB_spec (c_2 O) r hr
  | 3, _ => exact allB_spec (c_3 O) r hr
  | 4, _ => exact allB_spec (c_4 O) r hr
  | 5, _ => exact allB_spec (c_5 O) r hr
  | 6, _ => exact allB_spec (c_6 O) r hr
  | 7, _ => exact allB_spec (c_7 O) r hr
  | 8, _ => exact allB_spec (c_8 O) r hr
  | 9, _ => exact allB_spec (c_9 O) r hr
  | 10, _ => exact allB_spec (c_10 O) r hr
  | 11, _ => exact allB_spec (c_11 O) r hr
  | 12, _ => exact allB_spec (c_12 O) r hr
  | 13, _ => exact allB_spec (c_13 O) r hr
  | 14, _ => exact allB_spec (c_14 O) r hr
  | 15, _ => exact allB_spec (c_15 O) r hr
  | q + 16, h => exact absurd h (by omega)
theorem holds (a0 : Int) (w0 : (Lit.int .u8 a0).wf = true) (W : World) : Calls Try.prog 6 #[.int .u8 a0] W fun e W' => e = .returned (.bool true) ∧ Stays W W' :=
  law_rel (lf := 100000) (k := 60) (fn := Try.f6) (l' := [.int .u8 a0]) (by kernel_rfl) (by kernel_rfl) (.cons (u8_arg w0) .nil) (eval _ a0.toNat (u8_lt w0))

set_option maxRecDepth 100000 in
theorem contract (H : Type) (enc : TypeId × Value → H) (W : World) (base : Nat) (args : Array Value) (ds gs : List (DataW H)) (before : List MemPlace)
    (hval : ∀ (j : Nat) t v, Try.f6.params[j]? = some t → args[j]? = some v → Value.okWide Try.prog W .any base t v)
    (hW : DataW.Whole enc Try.prog Try.f6.params.toList Rows.memberInitsSpec.vars false W args.toList ds gs before) :
    Calls Try.prog 6 args W fun e W' => ∃ v, e = .returned v ∧ Rows.memberInitsSpec.post enc Try.prog Try.f6 false true false false W args v W' := by
  have hW' := hW
  obtain ⟨p, q, hA0, hV, rfl, hfz, hnd⟩ := hW
  have hA : DataW.TrodAll enc Try.prog W 0 (fun _ => true) true Try.f6.params.toList args.toList ds p := hA0
  rw [Try.params6] at hA hval
  obtain ⟨v0, vs0, d0, ds0, p0, q0, hargs, rfl, rfl, h0, r0⟩ := trodAll_cons hA
  obtain ⟨rfl, rfl, rfl⟩ := trodAll_nil r0
  obtain rfl : args = #[v0] := by cases args; simp_all
  obtain ⟨rfl, rfl⟩ := trodVars_none hV
  obtain ⟨a0, rfl, rfl, rfl, w0⟩ := open_int Try.underlying5 (hval 0 5 v0 rfl rfl) h0
  clear hA0
  simp only [List.append_nil] at hW'
  refine (holds a0 w0 W).mono fun e W' ⟨he, hg⟩ => ?_
  subst he
  exact ⟨_, rfl, post_mine (pa := []) (pv := []) hW' hg (fun _ _ _ => (trodAll_cons_mk (shut_bool Try.underlying4 _) trodAll_mk0)) (fun sp _ => (trodAll_cons_mk (shut_int Try.underlying5 w0) trodAll_mk0)) (fun _ _ => rfl) rfl
    (ok_one (by kernel_rfl) rfl (okWide_bool_mk Try.underlying4 _))⟩

set_option maxRecDepth 100000 in
theorem lifted (os : Os) (started : os.Started) (H : Type) (enc : TypeId × Value → H) :
    ReturnsInHanded {} Try.checked os 6 .any (Rows.memberInitsSpec.pre6 enc Try.prog Try.f6 Rows.memberInitsRow.domain false) (Rows.memberInitsSpec.post enc Try.prog Try.f6 false true false false) := by
  refine returnsInHanded_of_change (C := Try.checked) own started (by kernel_rfl) Try.func6
    (ChangeSpec.witness6 (enc := enc) (C := Try.checked) false ⟨#[], #[.int .u8 0], []⟩ 8 (by kernel_rfl) (by kernel_rfl) (by kernel_rfl) (by kernel_rfl)) ?_
  intro W base args ds gs before hval hW _ _
  exact contract H enc W base args ds gs before hval hW

theorem proved : Rows.MemberInitsSaid :=
  OpenClaim.holds_of_wide 6 Try.f6 rfl rfl rfl rfl rfl rfl rfl ⟨rfl, rfl, rfl, rfl, rfl⟩ rfl rfl rfl rfl rfl (by kernel_rfl) Try.func6 (by kernel_rfl)
    (of_decide_eq_true (by kernel_rfl)) (by unfold Func.isWrapper; first | (rw [if_pos (by decide +kernel)]; kernel_rfl) | (rw [if_neg (by decide +kernel)]; exact ⟨rfl, rfl⟩))
    (fun os started H enc _ => lifted os started H enc)
end Go.Proofs.Ytbinlpnmldaplaa.memberInits
