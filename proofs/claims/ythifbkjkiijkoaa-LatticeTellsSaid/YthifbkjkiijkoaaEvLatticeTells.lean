/-
  'bonsai/bonsailaw11.LatticeTells' is true, whatever the input. No condition.
-/
import Derived.Test.YthifbkjkiijkoaaLTells
import Derived.OpenShut
namespace Go.Proofs.Ythifbkjkiijkoaa.latticeTells
open Go.Ev Go.Ev.Wk Go.ChangeShapes Go.WideShapes Go.ChangeAt Go.RowKit
open Go.ChangeMaps (open_string shut_string)
set_option linter.unusedVariables false
set_option linter.unusedSimpArgs false

set_option maxHeartbeats 4000000 in
set_option maxRecDepth 100000 in
theorem contract (H : Type) (enc : TypeId × Value → H) (W : World) (base : Nat) (args : Array Value) (ds gs : List (DataW H)) (before : List MemPlace)
    (hval : ∀ (j : Nat) t v, Try.f4.params[j]? = some t → args[j]? = some v → Value.okWide Try.prog W .any 0 t v)
    (hW : DataW.Whole enc Try.prog Try.f4.params.toList Rows.latticeTellsSpec.vars false W args.toList ds gs before) :
    Calls Try.prog 4 args W fun e W' => ∃ v, e = .returned v ∧ Rows.latticeTellsSpec.post enc Try.prog Try.f4 false true false false W args v W' := by
  have hW' := hW
  obtain ⟨p, q, hA0, hV, rfl, hfz, hnd⟩ := hW
  have hA : DataW.TrodAll enc Try.prog W 0 (fun _ => true) true Try.f4.params.toList args.toList ds p := hA0
  rw [Try.params4] at hA hval
  obtain ⟨v0, vs0, d0, ds0, p0, q0, hargs, rfl, rfl, h0, r0⟩ := trodAll_cons hA
  obtain ⟨v1, vs1, d1, ds1, p1, q1, rfl, rfl, rfl, h1, r1⟩ := trodAll_cons r0
  obtain ⟨v2, vs2, d2, ds2, p2, q2, rfl, rfl, rfl, h2, r2⟩ := trodAll_cons r1
  obtain ⟨v3, vs3, d3, ds3, p3, q3, rfl, rfl, rfl, h3, r3⟩ := trodAll_cons r2
  obtain ⟨v4, vs4, d4, ds4, p4, q4, rfl, rfl, rfl, h4, r4⟩ := trodAll_cons r3
  obtain ⟨v5, vs5, d5, ds5, p5, q5, rfl, rfl, rfl, h5, r5⟩ := trodAll_cons r4
  obtain ⟨v6, vs6, d6, ds6, p6, q6, rfl, rfl, rfl, h6, r6⟩ := trodAll_cons r5
  obtain ⟨v7, vs7, d7, ds7, p7, q7, rfl, rfl, rfl, h7, r7⟩ := trodAll_cons r6
  obtain ⟨rfl, rfl, rfl⟩ := trodAll_nil r7
  obtain rfl : args = #[v0, v1, v2, v3, v4, v5, v6, v7] := by cases args; simp_all
  obtain ⟨rfl, rfl⟩ := trodVars_none hV
  have hlt := hW'.lt
  obtain ⟨x01, x02, x03, x04, rfl, rfl, w01, w02, w03, w04⟩ := arg_arr4 (k := .u8) Try.underlying22 Try.underlying5 (by kernel_rfl) (by kernel_rfl) (hval 0 22 v0 rfl rfl) h0
  obtain ⟨a1, rfl, rfl, rfl, w1⟩ := open_int Try.underlying5 (hval 1 5 v1 rfl rfl) h1
  obtain ⟨a2, rfl, rfl, rfl, w2⟩ := open_int Try.underlying5 (hval 2 5 v2 rfl rfl) h2
  obtain ⟨a3, rfl, rfl, rfl, w3⟩ := open_string Try.underlying9 (hval 3 9 v3 rfl rfl) h3
  obtain ⟨x4, y4, rfl, rfl, w4, z4⟩ := arg_typ (k1 := .i64) Try.underlying35 Try.underlying3 Try.underlying9 (by kernel_rfl) (by kernel_rfl) (by kernel_rfl) (hval 4 35 v4 rfl rfl) h4
  obtain ⟨x5, y5, rfl, rfl, w5, z5⟩ := arg_typ (k1 := .i64) Try.underlying35 Try.underlying3 Try.underlying9 (by kernel_rfl) (by kernel_rfl) (by kernel_rfl) (hval 5 35 v5 rfl rfl) h5
  obtain ⟨a6, n6, c6, l6, rfl, e6, f6, s6, z6⟩ := arg_ints (k := .u8) Try.underlying36 Try.underlying5 (by kernel_rfl) (hval 6 36 v6 rfl rfl) h6
  obtain ⟨a7, n7, c7, l7, rfl, e7, f7, s7, z7⟩ := arg_ints (k := .u8) Try.underlying36 Try.underlying5 (by kernel_rfl) (hval 7 36 v7 rfl rfl) h7
  have hcall : Holds Try.prog 4 [.agg #[.int .u8 x01, .int .u8 x02, .int .u8 x03, .int .u8 x04], .int .u8 a1, .int .u8 a2, .string a3, .agg #[.int .i64 x4, str y4], .agg #[.int .i64 x5, str y5], .slice a6 n6 c6, .slice a7 n7 c7] W :=
    law_walk (fn := Try.f4) (by kernel_rfl) (by kernel_rfl) (by kernel_rfl) (allC_cons closed_arr4 (allC_cons rfl (allC_cons rfl (allC_cons rfl (allC_cons closed_typ (allC_cons closed_typ (allC_cons f6 (allC_cons f7 rfl)))))))) (CallC.mono (latticeTells_walk (s := a3.data.toList) (a := (x4, y4)) (b := (x5, y5)) (wf_u8 w01) (wf_u8 w02) (wf_u8 w03) (wf_u8 w04) (wf_u8 w1) (wf_u8 w2) s6 (fun z h => wf_u8 (z6 z h)) s7 (fun z h => wf_u8 (z7 z h))) fun v H' h => h.1)
  refine Calls.mono hcall fun e W' hh => ?_
  obtain ⟨he, hg⟩ := hh
  subst he
  refine ⟨_, rfl, post_mine (pv := []) hW' hg (fun _ _ _ => (trodAll_cons_mk (shut_bool Try.underlying4 _) trodAll_mk0)) (fun sp hs => trodAll_stays (by kernel_rfl) hg (by kernel_rfl) hA0 (fun x hx => hlt x (by simpa using hx)) (fun x hx => hs x (by simpa using hx))) (fun _ _ => rfl) rfl
    (ok_one (by kernel_rfl) rfl (okWide_bool_mk Try.underlying4 _))⟩

set_option maxRecDepth 100000 in
theorem lifted (os : Os) (started : os.Started) (H : Type) (enc : TypeId × Value → H) :
    ReturnsInHanded {} Try.checked os 4 .any (Rows.latticeTellsSpec.pre6 enc Try.prog Try.f4 Rows.latticeTellsRow.domain false) (Rows.latticeTellsSpec.post enc Try.prog Try.f4 false true false false) := by
  refine returnsInHanded_of_change (C := Try.checked) own started (by kernel_rfl) Try.func4
    (ChangeSpec.witness6 (enc := enc) (C := Try.checked) false ⟨#[], #[.agg #[.int .u8 0, .int .u8 0, .int .u8 0, .int .u8 0], .int .u8 0, .int .u8 0, .string .empty, .agg #[.int .i64 0, .string .empty], .agg #[.int .i64 0, .string .empty], .slice none 0 0, .slice none 0 0], []⟩ 8 (by kernel_rfl) (by kernel_rfl) (by kernel_rfl) (by kernel_rfl)) ?_
  intro W base args ds gs before hval hW _ _
  exact contract H enc W base args ds gs before hval hW

theorem proved : Rows.LatticeTellsSaid :=
  OpenClaim.holds_of_wide 4 Try.f4 rfl rfl rfl rfl rfl rfl rfl ⟨rfl, rfl, rfl, rfl, rfl⟩ rfl rfl rfl rfl rfl (by kernel_rfl) Try.func4 (by kernel_rfl)
    (of_decide_eq_true (by kernel_rfl)) (by unfold Func.isWrapper; first | (rw [if_pos (by decide +kernel)]; kernel_rfl) | (rw [if_neg (by decide +kernel)]; exact ⟨rfl, rfl⟩))
    (fun os started H enc _ => lifted os started H enc)
end Go.Proofs.Ythifbkjkiijkoaa.latticeTells
